import Derived.Test.YtkphkjffcpkhjaaDoorSeR6M1
import Derived.Test.YtkphkjffcpkhjaaDoorProg
import Derived.Test.YtkphkjffcpkhjaaDoorTie
import Derived.Test.YtkphkjffcpkhjaaDoorCards
import Derived.ProofKit
import Derived.LaidMore
import Derived.OpenShut
import Derived.Stop.Joined
import Derived.Carry
/-! The symbolic executor: its law. -/
noncomputable section
set_option linter.unusedSimpArgs false
set_option linter.unusedVariables false
namespace Go.SE
open Go.RowKit (Below)
variable {P : Program} {w0 : W0}

/-- What an outcome must serve for. -/
def Post (w0 : W0) (B : Nat → Prop) (ρ : Env) (σ : Pl) (h : H) (s : St) (K : Act → World → Prop) : Prop :=
  ∀ ρ' σ' a' w', Ext h ρ ρ' σ σ' → h.le s.h → HRep w0 B ρ' σ' s.h w' → FRep ρ' σ' s.h s.fr s.n a' → K a' w'
theorem Post.mono {B : Nat → Prop} {ρ : Env} {σ : Pl} {h : H} {s : St} {K K' : Act → World → Prop} (p : Post w0 B ρ σ h s K) (hk : ∀ a w, K a w → K' a w) : Post w0 B ρ σ h s K' :=
  fun ρ' σ' a' w' h1 h2 h3 h4 => hk _ _ (p ρ' σ' a' w' h1 h2 h3 h4)
/-- from a later place. -/
theorem Post.from {B : Nat → Prop} {ρ ρ' : Env} {σ σ' : Pl} {h h' : H} {s : St} {K : Act → World → Prop} (p : Post w0 B ρ σ h s K) (e : Ext h ρ ρ' σ σ') (l : h.le h') : Post w0 B ρ' σ' h' s K :=
  fun ρ'' σ'' a' w' h1 h2 h3 h4 => p ρ'' σ'' a' w' (e.trans h1 l.v l.b) (l.trans h2) h3 h4

def CallOk (P : Program) (I : Interp) (f : Nat) (args : List SV) (h : H) (ob : List Obl) (rs : List (SV × H)) : Prop :=
  ∀ (w0 : W0), w0.i = I → (∀ o ∈ ob, o.ok w0) → ∀ (B : Nat → Prop) (ρ : Env) (σ : Pl) (w : World) (vs : List Value), HRep w0 B ρ σ h w → VRep ρ σ h args vs →
    Calls P f vs.toArray w fun e w' => ∃ q ∈ rs, ∃ ρ' σ' v, e = .returned v ∧ Ext h ρ ρ' σ σ' ∧ h.le q.2 ∧ HRep w0 B ρ' σ' q.2 w' ∧ VRep ρ' σ' q.2 [q.1] [v]
def CfOk (P : Program) (I : Interp) (C : Ctx) (cf : CallF) : Prop := ∀ f fn, C.ft f = some fn → ∀ args h ob rs, cf f args h = some (ob, rs) → CallOk P I f args h ob rs
structure CtxOk (P : Program) (I : Interp) (C : Ctx) : Prop where
  tt : TabOk P C.tt
  ft : ∀ f fn, C.ft f = some fn → P.funcs[f]? = some fn ∧ fn.body.isSome = true ∧ (fn.name == "runtime.NumGoroutine") = false
  mt : ∀ t m f, C.mt t m = some f → ∀ v w, (method (P.types.size + Made.depth) t v m).run P w = .ok (f, v) w
  mo : P.follows .mixedOrders = true
  hd : ∀ f k, C.hd f = some k → ∀ args h ob rs, k args h = some (ob, rs) → CallOk P I f args h ob rs

theorem FRep.put {ρ : Env} {σ : Pl} {h : H} {fr : List (Nat × SV)} {n : Nat} {a : Act} (hf : FRep ρ σ h fr n a) {t : Nat} (ht : t < n) {s : SV} {v : Value} (hv : VRep ρ σ h [s] [v]) :
    FRep ρ σ h (fset t s fr) n (a.put (some t) v) := by
  intro ρ' σ' he
  have h1 := hf _ _ he
  have h2 := hv _ _ he
  simp only [List.map_cons, List.map_nil, List.cons.injEq, and_true] at h2
  rw [← h2]
  exact h1.put t ht s
theorem FRep.undef {ρ : Env} {σ : Pl} {h : H} {fr : List (Nat × SV)} {n : Nat} {a : Act} (hf : FRep ρ σ h fr n a) (t : Nat) : FRep ρ σ h (fdel t fr) n (a.put (some t) undef) := by
  intro ρ' σ' he
  have h1 := hf _ _ he
  refine ⟨by simp [Act.put, h1.size], fun u v hv => ?_, h1.defers⟩
  rw [fget_fdel] at hv
  by_cases e : u = t
  · simp [e] at hv
  · simp only [e, if_false] at hv
    have := h1.get u v hv
    simp only [Act.put, Array.getD_eq_getD_getElem?] at this ⊢
    rw [Array.getElem?_setIfInBounds_ne (Ne.symm e)]
    exact this
theorem putS_val {d : Option Nat} {s : SV} {st st' : St} (e : putS d (some s) st = some st') {ρ : Env} {σ : Pl} {a : Act} {v : Value} (hf : FRep ρ σ st.h st.fr st.n a) (hv : VRep ρ σ st.h [s] [v]) :
    st'.h = st.h ∧ FRep ρ σ st'.h st'.fr st'.n (a.put d v) := by
  cases d with
  | none => simp only [putS, Option.some.injEq] at e; subst e; exact ⟨rfl, hf⟩
  | some d =>
    simp only [putS, force_eq] at e
    cases hb : Nat.blt d st.n with
    | false => simp [hb] at e
    | true =>
      simp only [hb, cond_true, Option.some.injEq] at e
      subst e
      exact ⟨rfl, hf.put (by simpa [Nat.blt_eq] using hb) hv⟩
theorem putS_undef {d : Option Nat} {st st' : St} (e : putS d none st = some st') {ρ : Env} {σ : Pl} {a : Act} (hf : FRep ρ σ st.h st.fr st.n a) :
    st'.h = st.h ∧ FRep ρ σ st'.h st'.fr st'.n (a.put d undef) := by
  cases d with
  | none => simp only [putS, Option.some.injEq] at e; subst e; exact ⟨rfl, hf⟩
  | some d =>
    simp only [putS, force_eq] at e
    cases hb : Nat.blt d st.n with
    | false => simp [hb] at e
    | true =>
      simp only [hb, cond_true, Option.some.injEq] at e
      subst e
      exact ⟨rfl, hf.put (by simpa [Nat.blt_eq] using hb) (fun _ _ _ => rfl)⟩

theorem HRep.fs {B : Nat → Prop} {ρ : Env} {σ : Pl} {h : H} {w : World} (r : HRep w0 B ρ σ h w) (F : List Fact) (hF : ∀ ρ' σ', Ext h ρ ρ' σ σ' → ∀ f ∈ F, f.ok ρ') : HRep w0 B ρ σ { h with fs := F } w := by
  intro ρ' σ' he
  have he' : Ext h ρ ρ' σ σ' := ⟨he.f, he.p, he.v, he.b⟩
  have h1 := r _ _ he'
  exact ⟨h1.ip, h1.lay, h1.below, h1.size, h1.blk, h1.apart, h1.bors, hF _ _ he'⟩

theorem stepM_ok {C : Ctx} (hC : CtxOk P w0.i C) {d : Option Nat} {o : Oper} {st : St} {ob : List Obl} {sts : List St} (e : stepM C d o st = some (ob, sts)) (hob : ∀ o ∈ ob, o.ok w0)
    {B : Nat → Prop} {ρ : Env} {σ : Pl} {a : Act} {w : World} (hr : HRep w0 B ρ σ st.h w) (hf : FRep ρ σ st.h st.fr st.n a) {K : Act → World → Prop} {Q : Exit → Act → World → Prop}
    (hp : ∀ s ∈ sts, Post w0 B ρ σ st.h s K) : o.wp P a w K Q := by
  unfold stepM at e
  obtain ⟨⟨gs, sv, h'⟩, hm, e⟩ := bind1 e
  simp only at e
  rw [Option.map_eq_some_iff] at e
  obtain ⟨s, hs, e⟩ := e
  cases e
  have hg := obls_ok (fs := st.h.fs) (l := gs) hob
  obtain ⟨ρ', σ', nx, w', hrun, hext, hle, hrep, hnx⟩ := memOp_ok hC.tt hm hr hf hg
  have hp1 := hp s List.mem_cons_self
  -- the memory behind it, with what is now known
  have key : ∀ h'' : H, h'' = afterH d st.h.fs gs h' → st.h.le h'' ∧ h'.le h'' ∧ h''.le h' ∧ HRep w0 B ρ' σ' h'' w' := by
    intro h'' e
    clear hs hm
    cases d with
    | none =>
      subst e
      refine ⟨⟨hle.v, hle.b⟩, ⟨fun _ h => h, fun _ h => h⟩, ⟨fun _ h => h, fun _ h => h⟩, hrep.fs _ fun ρ₁ σ₁ he => ?_⟩
      have h1 := hr _ _ (hext.trans he hle.v hle.b)
      exact newFs_ok h1.facts (hg ρ₁ h1.ip h1.facts)
    | some i => subst e; exact ⟨hle, H.le.refl _, H.le.refl _, hrep⟩
  generalize hh : afterH d st.h.fs gs h' = h'' at hs
  obtain ⟨k1, k2, k3, k4⟩ := key h'' hh.symm
  have hf' : FRep ρ' σ' h'' st.fr st.n a := hf.ext hext k1
  have hnx' : ∀ ρ₁ σ₁, Ext h'' ρ' ρ₁ σ' σ₁ → isNx ρ₁ σ₁ sv nx := fun ρ₁ σ₁ he => hnx ρ₁ σ₁ (he.of_le k2)
  unfold Oper.wp
  rw [hrun]
  cases sv with
  | none =>
    have h0 := hnx' _ _ (Ext.refl _ _ _)
    cases nx <;> simp only [isNx] at h0
    obtain ⟨e1, e2⟩ := putS_undef (st := { st with h := h'' }) hs hf'
    simp only [Oper.upon]
    refine hp1 ρ' σ' _ _ hext (by rw [e1]; exact k1) (by rw [e1]; exact k4) e2
  | some sv =>
    have h0 := hnx' _ _ (Ext.refl _ _ _)
    cases nx <;> simp only [isNx] at h0
    rename_i v
    obtain ⟨e1, e2⟩ := putS_val (st := { st with h := h'' }) hs hf' (v := v) (fun ρ₁ σ₁ he => by
      have := hnx' ρ₁ σ₁ he
      simp only [isNx] at this
      simp [this])
    simp only [Oper.upon]
    refine hp1 ρ' σ' _ _ hext (by rw [e1]; exact k1) (by rw [e1]; exact k4) e2

theorem putAll_mem {d : Option Nat} {st : St} : ∀ {l : List (SV × H)} {r : List St}, putAll d st l = some r → ∀ q ∈ l, ∃ s ∈ r, putS d (some q.1) { st with h := q.2 } = some s
  | [], r, e => by simp
  | (v, h) :: l, r, e => by
    simp only [putAll] at e
    obtain ⟨s, hs, e⟩ := bind1 e
    rw [Option.map_eq_some_iff] at e
    obtain ⟨r', hr', e⟩ := e
    subst e
    intro q hq
    simp only [List.mem_cons] at hq
    rcases hq with rfl | hq
    · exact ⟨s, List.mem_cons_self, hs⟩
    · obtain ⟨s', h1, h2⟩ := putAll_mem hr' q hq
      exact ⟨s', List.mem_cons_of_mem _ h1, h2⟩

theorem call_ok {C : Ctx} (hC : CtxOk P w0.i C) {cf : CallF} (hcf : CfOk P w0.i C cf) {o : Oper} {st : St} {ob : List Obl} {sts : List St} {i : Nat} {args : List SV} {fn : Func} {rs : List (SV × H)}
    (hfn : C.ft i = some fn) (hc : cf i args st.h = some (ob, rs)) (hpa : putAll o.dst st rs = some sts) (hob : ∀ o ∈ ob, o.ok w0)
    {B : Nat → Prop} {ρ : Env} {σ : Pl} {a : Act} {w : World} (hr : HRep w0 B ρ σ st.h w) (hf : FRep ρ σ st.h st.fr st.n a) {K : Act → World → Prop} {Q : Exit → Act → World → Prop}
    (vs : List Value) (hrun : (execOp a.eval o).run P w = (callFunc i vs.toArray).run P w) (hvs : VRep ρ σ st.h args vs)
    (hp : ∀ s ∈ sts, Post w0 B ρ σ st.h s K) : o.wp P a w K Q := by
  obtain ⟨h1, h2, h3⟩ := hC.ft i fn hfn
  have hcall := hcf i fn hfn args st.h ob rs hc w0 rfl hob B ρ σ w vs hr hvs
  have hgo : (callFunc i vs.toArray).run P w = .ok (.enter i vs.toArray) w := by
    have hb : fn.body.isNone = false := by cases hb : fn.body <;> simp_all
    unfold callFunc
    simp only [Sem.run_bind, run_program, Result.andThen_ok, h1, h3, Bool.false_eq_true, if_false, hb, Sem.run_pure]
  unfold Oper.wp
  rw [hrun, hgo, Oper.upon_enter]
  refine hcall.mono ?_
  rintro e w' ⟨q, hq, ρ', σ', v, rfl, hext, hle, hrep, hv⟩
  obtain ⟨s, hs, hput⟩ := putAll_mem hpa q hq
  obtain ⟨e1, e2⟩ := putS_val (st := { st with h := q.2 }) hput (hf.ext hext hle) hv
  exact hp s hs ρ' σ' _ _ hext (by rw [e1]; exact hle) (by rw [e1]; exact hrep) e2

theorem stepO_ok {C : Ctx} (hC : CtxOk P w0.i C) {cf : CallF} (hcf : CfOk P w0.i C cf) {d : Option Nat} {o : Oper} {st : St} {ob : List Obl} {sts : List St} (e : stepO C cf d o st = some (ob, sts)) (hob : ∀ o ∈ ob, o.ok w0)
    {B : Nat → Prop} {ρ : Env} {σ : Pl} {a : Act} {w : World} (hr : HRep w0 B ρ σ st.h w) (hf : FRep ρ σ st.h st.fr st.n a) {K : Act → World → Prop} {Q : Exit → Act → World → Prop}
    (hp : ∀ s ∈ sts, Post w0 B ρ σ st.h s K) : o.wp P a w K Q := by
  unfold stepO at e
  split at e
  case h_2 => exact stepM_ok hC e hob hr hf hp
  rename_i c hop
  split at e
  · rename_i hcallee
    split at e
    · rename_i x y t u hargs htys
      cases hb : Nat.beq t u with
      | false => simp [hb] at e
      | true =>
        have htu := beq_true.1 hb
        subst htu
        simp only [hb, cond_true] at e
        obtain ⟨vx, hx, e⟩ := bind1 e
        obtain ⟨vy, hy, e⟩ := bind1 e
        obtain ⟨⟨g, outs⟩, hm, e⟩ := bind1 e
        rw [Option.map_eq_some_iff] at e
        obtain ⟨r, hpa, e⟩ := e
        cases e
        have hg := obls_ok (fs := st.h.fs) (l := g) hob
        obtain ⟨q, hq, ρ', σ', v, w', hrun, hext, hle, hrep, hv⟩ := mAppX_ok (ty := o.type) hC.tt hm hr (fun ρ₁ σ₁ he => ev_ok (hf _ _ he) hx) (fun ρ₁ σ₁ he => ev_ok (hf _ _ he) hy) hg
        have ha : c.args = #[x, y] := by apply Array.ext'; simpa using hargs
        have hty : c.argTypes = #[t, t] := by apply Array.ext'; simpa using htys
        obtain ⟨s, hs, hput⟩ := putAll_mem hpa q hq
        obtain ⟨e1, e2⟩ := putS_val (st := { st with h := q.2 }) hput (hf.ext hext hle) hv
        unfold Oper.wp execOp
        simp only [hop, resolve, hcallee, ha, hty, invoke, builtin, Sem.run_bind, Sem.run_pure, Result.andThen_ok, List.map_toArray, List.map_cons, List.map_nil, hrun, Oper.upon]
        exact hp s hs ρ' σ' _ _ hext (by rw [e1]; exact hle) (by rw [e1]; exact hrep) e2
    · cases e
  · rename_i hcallee
    split at e
    · rename_i x y t u hargs htys
      obtain ⟨vx, hx, e⟩ := bind1 e
      obtain ⟨vy, hy, e⟩ := bind1 e
      obtain ⟨⟨g, sv, h'⟩, hm, e⟩ := bind1 e
      rw [Option.map_eq_some_iff] at e
      obtain ⟨s, hput, e⟩ := e
      cases e
      have hg := obls_ok (fs := st.h.fs) (l := g) hob
      obtain ⟨l1, l2, w', hrun, hok⟩ := mCopy_ok (u := u) (ty := o.type) hC.tt hm hr.now (hg ρ hr.now.ip hr.now.facts)
      have hrep : HRep w0 B ρ σ h' w' := by
        intro ρ₁ σ₁ he
        have he' := he.of_le l1
        have r1 := hr _ _ he'
        obtain ⟨_, _, w2, hrun2, hok2⟩ := mCopy_ok (u := u) (ty := o.type) hC.tt hm r1 (hg ρ₁ r1.ip r1.facts)
        rw [← ev_ok (hf _ _ he') hx, ← ev_ok (hf _ _ he') hy, ev_ok hf.now hx, ev_ok hf.now hy, hrun] at hrun2
        simp only [Result.ok.injEq] at hrun2
        rw [hrun2.2]
        exact hok2
      have hv : VRep ρ σ h' [sv] [sv.val ρ σ] := by
        intro ρ₁ σ₁ he
        have he' := he.of_le l1
        have r1 := hr _ _ he'
        obtain ⟨_, _, w2, hrun2, hok2⟩ := mCopy_ok (u := u) (ty := o.type) hC.tt hm r1 (hg ρ₁ r1.ip r1.facts)
        rw [← ev_ok (hf _ _ he') hx, ← ev_ok (hf _ _ he') hy, ev_ok hf.now hx, ev_ok hf.now hy, hrun] at hrun2
        simp only [Result.ok.injEq] at hrun2
        simp only [List.map_cons, List.map_nil, hrun2.1]
      have ha : c.args = #[x, y] := by apply Array.ext'; simpa using hargs
      have hty : c.argTypes = #[t, u] := by apply Array.ext'; simpa using htys
      obtain ⟨e1, e2⟩ := putS_val (st := { st with h := h' }) hput (hf.ext (Ext.refl _ _ _) l1) hv
      rw [← ev_ok hf.now hx, ← ev_ok hf.now hy] at hrun
      unfold Oper.wp execOp
      simp only [hop, resolve, hcallee, ha, hty, invoke, builtin, Sem.run_bind, Sem.run_pure, Result.andThen_ok, List.map_toArray, List.map_cons, List.map_nil, hrun, Oper.upon]
      exact hp s List.mem_cons_self ρ σ _ _ (Ext.refl _ _ _) (by rw [e1]; exact l1) (by rw [e1]; exact hrep) e2
    · cases e
  · exact stepM_ok hC e hob hr hf hp
  · rename_i f hcallee
    obtain ⟨vf, hvf, e⟩ := bind1 e
    split at e
    · rename_i i caps
      obtain ⟨l, hl, e⟩ := bind1 e
      obtain ⟨fn, hfn, e⟩ := bind1 e
      obtain ⟨⟨ob', rs⟩, hc, e⟩ := bind1 e
      rw [Option.map_eq_some_iff] at e
      obtain ⟨r, hr', e⟩ := e
      cases e
      have h1 : ∀ ρ₁ σ₁, Ext st.h ρ ρ₁ σ σ₁ → c.args.toList.map a.eval = l.map (SV.val ρ₁ σ₁) := fun ρ₁ σ₁ he => evs_ok (fun x s hs => ev_ok (hf _ _ he) hs) hl
      have h2 : ∀ ρ₁ σ₁, Ext st.h ρ ρ₁ σ σ₁ → a.eval f = .func (.func i) #[] (caps.map (SV.val ρ₁ σ₁)).toArray := fun ρ₁ σ₁ he => by
        have := ev_ok (hf _ _ he) hvf
        rw [this]; simp [SV.val, vals_eq]
      refine call_ok hC hcf hfn hc hr' hob hr hf (c.args.toList.map a.eval ++ caps.map (SV.val ρ σ)) ?_ ?_ hp
      · have h3 := h2 ρ σ (Ext.refl _ _ _)
        have h4 : c.args.map a.eval = (c.args.toList.map a.eval).toArray := by apply Array.ext'; simp
        simp only [execOp, hop, resolve, hcallee, h3, Deferred.ofValue, Sem.run_bind, Sem.run_pure, Result.andThen_ok, invoke, h4]
        simp
      · intro ρ₁ σ₁ he
        rw [List.map_append, ← h1 ρ₁ σ₁ he]
        congr 1
        have e1 := h2 ρ₁ σ₁ he
        rw [h2 ρ σ (Ext.refl _ _ _)] at e1
        simpa using e1.symm
    · cases e
  · rename_i r m hcallee
    obtain ⟨vf, hvf, e⟩ := bind1 e
    split at e
    · rename_i t v
      obtain ⟨l, hl, e⟩ := bind1 e
      obtain ⟨i, hi, e⟩ := bind1 e
      obtain ⟨fn, hfn, e⟩ := bind1 e
      obtain ⟨⟨ob', rs⟩, hc, e⟩ := bind1 e
      rw [Option.map_eq_some_iff] at e
      obtain ⟨r', hr', e⟩ := e
      cases e
      have h1 : ∀ ρ₁ σ₁, Ext st.h ρ ρ₁ σ σ₁ → c.args.toList.map a.eval = l.map (SV.val ρ₁ σ₁) := fun ρ₁ σ₁ he => evs_ok (fun x s hs => ev_ok (hf _ _ he) hs) hl
      have h2 : ∀ ρ₁ σ₁, Ext st.h ρ ρ₁ σ σ₁ → a.eval r = .iface t (v.val ρ₁ σ₁) := fun ρ₁ σ₁ he => ev_ok (hf _ _ he) hvf
      refine call_ok hC hcf hfn hc hr' hob hr hf (v.val ρ σ :: c.args.toList.map a.eval) ?_ ?_ hp
      · have h3 := h2 ρ σ (Ext.refl _ _ _)
        have h4 : c.args.map a.eval = (c.args.toList.map a.eval).toArray := by apply Array.ext'; simp
        have h5 : (#[Value.iface t (v.val ρ σ)] ++ (c.args.toList.map a.eval).toArray).extract 1 (#[Value.iface t (v.val ρ σ)] ++ (c.args.toList.map a.eval).toArray).size = (c.args.toList.map a.eval).toArray := by
          apply Array.ext'; simp
          exact List.take_of_length_le (by simp)
        have h6 : (#[Value.iface t (v.val ρ σ)] ++ (c.args.toList.map a.eval).toArray)[0]? = some (Value.iface t (v.val ρ σ)) := by simp
        have hmt := hC.mt t m i hi (v.val ρ σ) w
        simp only [execOp, hop, resolve, hcallee, h3, Sem.run_bind, Sem.run_pure, Result.andThen_ok, invoke, h4, h6, h5, callMethod, run_program, hmt]
        simp
      · intro ρ₁ σ₁ he
        rw [List.map_cons, ← h1 ρ₁ σ₁ he]
        congr 1
        have e1 := h2 ρ₁ σ₁ he
        rw [h2 ρ σ (Ext.refl _ _ _)] at e1
        simpa using e1.symm
    · cases e

theorem wnt_yes {all : Array Oper} {o : Oper} {fr : List (Nat × SV)} (h : wnt all o fr = some .yes) {ρ : Env} {σ : Pl} {n : Nat} {a : Act} (hf : FrOk ρ σ fr n a) : Region.wanted o (yielded all a.tmps) = true := by
  unfold wnt at h
  unfold Region.wanted
  split at h
  · rename_i hg; simp [hg]
  · rename_i j want hg
    obtain ⟨d, hd, h⟩ := bind1 h
    obtain ⟨v, hv, h⟩ := bind1 h
    split at h
    · rename_i b
      cases hb : (b == want) with
      | false => simp [hb] at h
      | true =>
        have hb' : b = want := by simpa using hb
        subst hb'
        have h1 := hf.get d _ hv
        simp only [SV.val, X.den, asB_b] at h1
        have h2 : a.tmps[d]? = some (.bool b) := by
          rw [Array.getD_eq_getD_getElem?] at h1
          cases hq : a.tmps[d]? with
          | none => rw [hq] at h1; simp [undef] at h1
          | some q => rw [hq] at h1; simp at h1; rw [h1]
        simp [hg, yielded, hd, h2]
    · cases h
    · cases h
    · cases h
theorem wnt_no {all : Array Oper} {o : Oper} {fr : List (Nat × SV)} (h : wnt all o fr = some .no) {ρ : Env} {σ : Pl} {n : Nat} {a : Act} (hf : FrOk ρ σ fr n a) : Region.wanted o (yielded all a.tmps) = false := by
  unfold wnt at h
  unfold Region.wanted
  split at h
  · cases h
  · rename_i j want hg
    obtain ⟨d, hd, h⟩ := bind1 h
    obtain ⟨v, hv, h⟩ := bind1 h
    split at h
    · rename_i b
      cases hb : (b == want) with
      | true => simp [hb] at h
      | false =>
        have h1 := hf.get d _ hv
        simp only [SV.val, X.den, asB_b] at h1
        have h2 : a.tmps[d]? = some (.bool b) := by
          rw [Array.getD_eq_getD_getElem?] at h1
          cases hq : a.tmps[d]? with
          | none => rw [hq] at h1; simp [undef] at h1
          | some q => rw [hq] at h1; simp at h1; rw [h1]
        have hne : b ≠ want := by simpa using hb
        simp [hg, yielded, hd, h2, hne]
    · cases h
    · have h1 := hf.get d _ hv
      have h3 : SV.val ρ σ (.tuple []) = .tuple #[] := rfl
      rw [h3] at h1
      have h2 : a.tmps[d]? = none ∨ a.tmps[d]? = some (.tuple #[]) := by
        rw [Array.getD_eq_getD_getElem?] at h1
        cases hq : a.tmps[d]? with
        | none => exact .inl rfl
        | some q => rw [hq] at h1; simp at h1; rw [h1]; exact .inr rfl
      rcases h2 with h2 | h2 <;> simp [hg, yielded, hd, h2]
    · cases h
theorem wnt_fork {all : Array Oper} {o : Oper} {fr : List (Nat × SV)} {x : X} {d : Nat} {want : Bool} (h : wnt all o fr = some (.fork x d want)) :
    ∃ j, o.guard = some (j, want) ∧ (all[j]?).bind (·.dst) = some d ∧ fget fr d = some (.bool x) := by
  unfold wnt at h
  split at h
  · cases h
  · rename_i j want' hg
    obtain ⟨d', hd, h⟩ := bind1 h
    obtain ⟨v, hv, h⟩ := bind1 h
    split at h
    · rename_i b; cases hb : (b == want') <;> simp [hb] at h
    · simp only [Option.some.injEq, Wnt.fork.injEq] at h
      obtain ⟨rfl, rfl, rfl⟩ := h
      exact ⟨j, hg, hd, hv⟩
    · cases h
    · cases h

theorem joinAll_mem {α β : Type} {k : α → Option (List Obl × List β)} : ∀ {l : List α} {ob : List Obl} {r : List β}, joinAll k l = some (ob, r) → ∀ a ∈ l, ∃ ob' r', k a = some (ob', r') ∧ (∀ o ∈ ob', o ∈ ob) ∧ ∀ x ∈ r', x ∈ r
  | [], ob, r, h => by simp
  | a :: l, ob, r, h => by
    simp only [joinAll] at h
    obtain ⟨q, hq, h⟩ := bind1 h
    rw [Option.map_eq_some_iff] at h
    obtain ⟨s, hs, h⟩ := h
    cases h
    intro b hb
    simp only [List.mem_cons] at hb
    rcases hb with rfl | hb
    · exact ⟨q.1, q.2, hq, fun o ho => List.mem_append_left _ ho, fun x hx => List.mem_append_left _ hx⟩
    · obtain ⟨ob', r', h1, h2, h3⟩ := joinAll_mem (ob := s.1) (r := s.2) hs b hb
      exact ⟨ob', r', h1, fun o ho => List.mem_append_right _ (h2 o ho), fun x hx => List.mem_append_right _ (h3 x hx)⟩
theorem thenAll_mem {α β : Type} {r : Option (List Obl × List α)} {k : α → Option (List Obl × List β)} {ob : List Obl} {t : List β} (h : thenAll r k = some (ob, t)) :
    ∃ ob1 l, r = some (ob1, l) ∧ (∀ o ∈ ob1, o ∈ ob) ∧ ∀ a ∈ l, ∃ ob' r', k a = some (ob', r') ∧ (∀ o ∈ ob', o ∈ ob) ∧ ∀ x ∈ r', x ∈ t := by
  unfold thenAll at h
  obtain ⟨q, hq, h⟩ := bind1 h
  rw [Option.map_eq_some_iff] at h
  obtain ⟨s, hs, h⟩ := h
  cases h
  refine ⟨q.1, q.2, hq, fun o ho => List.mem_append_left _ ho, fun a ha => ?_⟩
  obtain ⟨ob', r', h1, h2, h3⟩ := joinAll_mem (ob := s.1) (r := s.2) hs a ha
  exact ⟨ob', r', h1, fun o ho => List.mem_append_right _ (h2 o ho), h3⟩
theorem both_mem {β : Type} {a b : Option (List Obl × List β)} {ob : List Obl} {t : List β} (h : both a b = some (ob, t)) :
    ∃ o1 t1 o2 t2, a = some (o1, t1) ∧ b = some (o2, t2) ∧ (∀ o ∈ o1, o ∈ ob) ∧ (∀ o ∈ o2, o ∈ ob) ∧ (∀ x ∈ t1, x ∈ t) ∧ ∀ x ∈ t2, x ∈ t := by
  unfold both at h
  obtain ⟨q, hq, h⟩ := bind1 h
  rw [Option.map_eq_some_iff] at h
  obtain ⟨s, hs, h⟩ := h
  cases h
  exact ⟨q.1, q.2, s.1, s.2, hq, hs, fun o ho => List.mem_append_left _ ho, fun o ho => List.mem_append_right _ ho, fun o ho => List.mem_append_left _ ho, fun o ho => List.mem_append_right _ ho⟩

/-- A truth value known to be one of the two. -/
theorem assume_rep {B : Nat → Prop} {ρ : Env} {σ : Pl} {st : St} {w : World} {x : X} {b : Bool} (hr : HRep w0 B ρ σ st.h w)
    (hx : ∀ ρ₁ σ₁, Ext st.h ρ ρ₁ σ σ₁ → (x.den ρ₁).asB = b) : HRep w0 B ρ σ (assume x b st).h w := by
  refine hr.fs _ fun ρ₁ σ₁ he f hf => ?_
  simp only [List.mem_cons] at hf
  rcases hf with rfl | hf
  · simp only [Fact.ok]
    cases b with
    | true => exact hx ρ₁ σ₁ he
    | false => simp only [litB, cond_false, mNot_den, hx ρ₁ σ₁ he]; rfl
  · exact (hr _ _ he).facts f hf

theorem eith_mem {β : Type} {k l : Bool} {a b : Option (List Obl × List β)} {ob : List Obl} {r : List β} (e : eith k l a b = some (ob, r)) {p want : Bool} (hk : k = true → p = want) (hl : l = true → p = !want) :
    (p = want → ∃ o t, a = some (o, t) ∧ (∀ x ∈ o, x ∈ ob) ∧ ∀ x ∈ t, x ∈ r) ∧ (p = (!want) → ∃ o t, b = some (o, t) ∧ (∀ x ∈ o, x ∈ ob) ∧ ∀ x ∈ t, x ∈ r) := by
  have ne : p = want → p = (!want) → False := by intro h1 h2; rw [h1] at h2; cases want <;> cases h2
  unfold eith at e
  cases k with
  | true => exact ⟨fun _ => ⟨ob, r, e, fun _ h => h, fun _ h => h⟩, fun h => (ne (hk rfl) h).elim⟩
  | false =>
    simp only [cond_false] at e
    cases l with
    | true => exact ⟨fun h => (ne h (hl rfl)).elim, fun _ => ⟨ob, r, e, fun _ h => h, fun _ h => h⟩⟩
    | false =>
      simp only [cond_false] at e
      obtain ⟨o1, t1, o2, t2, ea, eb, ho1, ho2, ht1, ht2⟩ := both_mem e
      exact ⟨fun _ => ⟨o1, t1, ea, ho1, ht1⟩, fun _ => ⟨o2, t2, eb, ho2, ht2⟩⟩
theorem execOps_ok {C : Ctx} (hC : CtxOk P w0.i C) {cf : CallF} (hcf : CfOk P w0.i C cf) {all : Array Oper} : ∀ {l : List Oper} {st : St} {ob : List Obl} {sts : List St}, execOps C cf all l st = some (ob, sts) → (∀ o ∈ ob, o.ok w0) →
    ∀ {B : Nat → Prop} {ρ : Env} {σ : Pl} {a : Act} {w : World}, HRep w0 B ρ σ st.h w → FRep ρ σ st.h st.fr st.n a → ∀ {Q : Exit → Act → World → Prop},
    (∀ s ∈ sts, Post w0 B ρ σ st.h s (Q .normal)) → wpList P all Q l a w
  | [], st, ob, sts, e, hob, B, ρ, σ, a, w, hr, hf, Q, hp => by
    simp only [execOps, Option.some.injEq, Prod.mk.injEq] at e
    obtain ⟨rfl, rfl⟩ := e
    exact hp st List.mem_cons_self ρ σ a w (Ext.refl _ _ _) (H.le.refl _) hr hf
  | o :: rest, st, ob, sts, e, hob, B, ρ, σ, a, w, hr, hf, Q, hp => by
    simp only [execOps] at e
    have yes : ∀ {st' : St} {ob' : List Obl} {sts' : List St}, thenAll (stepO C cf none o st') (execOps C cf all rest) = some (ob', sts') → (∀ o ∈ ob', o.ok w0) → (∀ s ∈ sts', s ∈ sts) →
        st'.n = st.n → st.h.le st'.h → st'.h.le st.h → HRep w0 B ρ σ st'.h w → FRep ρ σ st'.h st'.fr st'.n a → Region.wanted o (yielded all a.tmps) = true → wpList P all Q (o :: rest) a w := by
      intro st' ob' sts' e hob' hsub hn hle hle' hr' hf' hw
      obtain ⟨ob1, l, h1, h2, h3⟩ := thenAll_mem e
      unfold wpList
      rw [if_pos hw]
      refine .inl (stepO_ok hC hcf h1 (fun o ho => hob' o (h2 o ho)) hr' hf' fun s hs => ?_)
      obtain ⟨ob2, r2, h4, h5, h6⟩ := h3 s hs
      intro ρ' σ' a' w' he hl hr2 hf2
      exact execOps_ok hC hcf h4 (fun o ho => hob' o (h5 o ho)) hr2 hf2 fun s' hs' => (hp s' (hsub s' (h6 s' hs'))).from (he.of_le hle) (hle.trans hl)
    have no : ∀ {st' s' : St} {ob' : List Obl} {sts' : List St}, putS o.dst none st' = some s' → execOps C cf all rest s' = some (ob', sts') → (∀ o ∈ ob', o.ok w0) → (∀ s ∈ sts', s ∈ sts) →
        st.h.le st'.h → st'.h.le st.h → HRep w0 B ρ σ st'.h w → FRep ρ σ st'.h st'.fr st'.n a → Region.wanted o (yielded all a.tmps) = false → wpList P all Q (o :: rest) a w := by
      intro st' s' ob' sts' hput e hob' hsub hle hle' hr' hf' hw
      unfold wpList
      rw [if_neg (by simp [hw])]
      obtain ⟨e1, e2⟩ := putS_undef hput hf'
      have hl2 : st.h.le s'.h := by rw [e1]; exact hle
      exact execOps_ok hC hcf e hob' (by rw [e1]; exact hr') e2 fun s2 hs2 => (hp s2 (hsub s2 hs2)).from (Ext.refl _ _ _) hl2
    split at e
    · rename_i hw
      exact yes e hob (fun s hs => hs) rfl (H.le.refl _) (H.le.refl _) hr hf (wnt_yes hw hf.now)
    · rename_i hw
      obtain ⟨s', hput, e⟩ := bind1 e
      exact no hput e hob (fun s hs => hs) (H.le.refl _) (H.le.refl _) hr hf (wnt_no hw hf.now)
    · rename_i x d want hw
      obtain ⟨j, hg, hd, hx⟩ := wnt_fork hw
      have hval : ∀ ρ₁ σ₁, Ext st.h ρ ρ₁ σ σ₁ → a.tmps.getD d undef = .bool (x.den ρ₁).asB := fun ρ₁ σ₁ he => (hf _ _ he).get d _ hx
      have hsame : ∀ ρ₁ σ₁, Ext st.h ρ ρ₁ σ σ₁ → (x.den ρ₁).asB = (x.den ρ).asB := fun ρ₁ σ₁ he => by
        have h1 := hval ρ₁ σ₁ he
        rw [hval ρ σ (Ext.refl _ _ _)] at h1
        simpa using h1.symm
      have hget : a.tmps[d]? = some (.bool (x.den ρ).asB) := by
        have h1 := hval ρ σ (Ext.refl _ _ _)
        rw [Array.getD_eq_getD_getElem?] at h1
        cases hq : a.tmps[d]? with
        | none => rw [hq] at h1; simp [undef] at h1
        | some q => rw [hq] at h1; simp at h1; rw [h1]
      have hf2 : ∀ b, (x.den ρ).asB = b → FRep ρ σ st.h (fset d (.bool (.t b)) st.fr) st.n a := by
        intro b hb ρ₁ σ₁ he
        have h1 := hf _ _ he
        refine ⟨h1.size, fun t v hv => ?_, h1.defers⟩
        rw [fget_fset] at hv
        by_cases e : t = d
        · subst e
          simp only [if_true, Option.some.injEq] at hv
          subst hv
          rw [hval _ _ he, hsame _ _ he, hb]; rfl
        · simp only [e, if_false] at hv
          exact h1.get t v hv
      have hwant : Region.wanted o (yielded all a.tmps) = ((x.den ρ).asB == want) := by
        unfold Region.wanted
        simp only [hg, yielded, hd, Option.bind_some, hget]
        cases (x.den ρ).asB <;> cases want <;> rfl
      have hlit : ∀ b, known st.h.fs (litB x b) = true → (x.den ρ).asB = b := by
        intro b hk
        have h1 := known_ok hk ρ hr.now.facts
        unfold litB at h1
        cases b with
        | true => exact h1
        | false => simp only [cond_false, mNot_den, Bool.not_eq_true'] at h1; exact h1
      obtain ⟨hA, hB⟩ := eith_mem e (fun k => hlit _ k) (fun k => hlit _ k)
      by_cases hb : (x.den ρ).asB = want
      · obtain ⟨o1, t1, ea, ho1, ht1⟩ := hA hb
        refine yes (st' := assume x want { st with fr := fset d (.bool (.t want)) st.fr }) ea (fun o ho => hob o (ho1 o ho)) ht1 rfl ⟨fun _ h => h, fun _ h => h⟩ ⟨fun _ h => h, fun _ h => h⟩ ?_ ?_ (by rw [hwant, hb]; simp)
        · exact assume_rep (st := { st with fr := fset d (.bool (.t want)) st.fr }) hr fun ρ₁ σ₁ he => by rw [hsame _ _ he, hb]
        · exact (hf2 want hb).ext (Ext.refl _ _ _) ⟨fun _ h => h, fun _ h => h⟩
      · have hb' : (x.den ρ).asB = !want := by cases h1 : (x.den ρ).asB <;> cases want <;> simp_all
        obtain ⟨o2, t2, eb, ho2, ht2⟩ := hB hb'
        obtain ⟨s', hput, eb⟩ := bind1 eb
        refine no (st' := assume x (!want) { st with fr := fset d (.bool (.t (!want))) st.fr }) hput eb (fun o ho => hob o (ho2 o ho)) ht2 ⟨fun _ h => h, fun _ h => h⟩ ⟨fun _ h => h, fun _ h => h⟩ ?_ ?_ (by rw [hwant, hb']; cases want <;> rfl)
        · exact assume_rep (st := { st with fr := fset d (.bool (.t (!want))) st.fr }) hr fun ρ₁ σ₁ he => by rw [hsame _ _ he, hb']
        · exact (hf2 (!want) hb').ext (Ext.refl _ _ _) ⟨fun _ h => h, fun _ h => h⟩
    · cases e
end Go.SE
end
/-! The symbolic executor: a region that draws its order; code; calls. -/
noncomputable section
set_option linter.unusedSimpArgs false
set_option linter.unusedVariables false
namespace Go.SE
open Go.RowKit (Below)
variable {P : Program} {w0 : W0} {I : Interp}

/-! Small laws of the making ready. -/
theorem lfold_nil {α β : Type} (f : α → β → β) (z : β) : lfold f z [] = z := rfl
theorem lfold_cons {α β : Type} (f : α → β → β) (z : β) (a : α) (l : List α) : lfold f z (a :: l) = f a (lfold f z l) := rfl
theorem allB_iff {α : Type} {p : α → Bool} : ∀ {l : List α}, allB p l = true ↔ ∀ a ∈ l, p a = true
  | [] => by simp [allB, lfold_nil]
  | a :: l => by
    have ih := allB_iff (p := p) (l := l)
    have h : allB p (a :: l) = bif p a then allB p l else false := rfl
    rw [h]
    cases hp : p a with
    | false => simp [hp]
    | true => simp only [cond_true, ih, List.mem_cons, forall_eq_or_imp, hp, true_and]
theorem filB_eq {α : Type} (p : α → Bool) : ∀ (l : List α), filB p l = l.filter p
  | [] => rfl
  | a :: l => by
    have ih := filB_eq p l
    unfold filB at ih ⊢
    rw [lfold_cons, ih]
    cases hp : p a <;> simp [hp]
theorem land_test (a b t : Nat) : (Nat.land a b).testBit t = (a.testBit t && b.testBit t) := Nat.testBit_and a b t
theorem lor_test (a b t : Nat) : (Nat.lor a b).testBit t = (a.testBit t || b.testBit t) := Nat.testBit_or a b t
theorem pow_test (a t : Nat) : (Nat.pow 2 a).testBit t = decide (a = t) := Nat.testBit_two_pow
theorem bitsL_test (t : Nat) : ∀ (l : List Nat), (bitsL l).testBit t = true ↔ t ∈ l
  | [] => by simp [bitsL, lfold_nil]
  | a :: l => by
    have ih := bitsL_test t l
    unfold bitsL at ih ⊢
    rw [lfold_cons, lor_test, pow_test]
    simp only [Bool.or_eq_true, decide_eq_true_eq, List.mem_cons, ih]
    exact ⟨fun h => h.imp Eq.symm id, fun h => h.imp Eq.symm id⟩
theorem land_zero {i m : Nat} : Nat.beq (Nat.land (Nat.pow 2 i) m) 0 = true ↔ m.testBit i = false := by
  rw [beq_true]
  constructor
  · intro h
    have := land_test (Nat.pow 2 i) m i
    rw [h, pow_test] at this
    simpa using this.symm
  · intro h
    refine Nat.eq_of_testBit_eq fun t => ?_
    rw [land_test, pow_test, Nat.zero_testBit]
    by_cases e : i = t
    · subst e; rw [h, Bool.and_false]
    · simp [e]
theorem land_sub {a m : Nat} : Nat.beq (Nat.land a m) a = true ↔ ∀ t, a.testBit t = true → m.testBit t = true := by
  rw [beq_true]
  constructor
  · intro h t ht
    have := land_test a m t
    rw [h, ht] at this
    simpa using this.symm
  · intro h
    refine Nat.eq_of_testBit_eq fun t => ?_
    rw [land_test]
    cases ht : a.testBit t with
    | false => rfl
    | true => rw [h t ht]; rfl
theorem prepGo_get {all : Array Oper} : ∀ (l : List Oper) (i k : Nat), (prepGo all i l)[k]? = (l[k]?).map (rgOf all (i + k))
  | [], i, k => by simp [prepGo]
  | o :: l, i, 0 => by simp [prepGo]
  | o :: l, i, k + 1 => by
    simp only [prepGo, List.getElem?_cons_succ, prepGo_get l (i + 1) k]
    rw [show i + 1 + k = i + (k + 1) by omega]
theorem prep_get (all : Array Oper) (k : Nat) : (prep all)[k]? = (all[k]?).map (rgOf all k) := by
  unfold prep
  rw [prepGo_get, Nat.zero_add, Array.getElem?_toList]
theorem prep_mem {all : Array Oper} {r : Rg} : r ∈ prep all ↔ ∃ i o, all[i]? = some o ∧ r = rgOf all i o := by
  rw [List.mem_iff_getElem?]
  constructor
  · rintro ⟨k, hk⟩
    rw [prep_get, Option.map_eq_some_iff] at hk
    obtain ⟨o, ho, rfl⟩ := hk
    exact ⟨k, o, ho, rfl⟩
  · rintro ⟨i, o, ho, rfl⟩
    exact ⟨i, by rw [prep_get, ho]; rfl⟩
theorem mem_aheads {o : Oper} {j : Nat} : j ∈ aheads o ↔ ∃ e ∈ o.after, Region.binds .any e = true ∧ e.on = j := by
  simp only [aheads, List.mem_map, List.mem_filter, Array.mem_toList_iff]
  constructor
  · rintro ⟨e, ⟨h1, h2⟩, h3⟩; exact ⟨e, h1, h2, h3⟩
  · rintro ⟨e, h1, h2, h3⟩; exact ⟨e, ⟨h1, h2⟩, h3⟩
theorem rdB_test {r : Rg} {t : Nat} (h : r.d.testBit t = true) : ∀ {l : List Rg}, r ∈ l → (rdB l).testBit t = true
  | s :: l, hm => by
    unfold rdB
    rw [lfold_cons, lor_test]
    simp only [List.mem_cons] at hm
    rcases hm with rfl | hm
    · rw [h]; rfl
    · have := rdB_test h hm
      unfold rdB at this
      rw [this, Bool.or_true]
theorem disjB_ok : ∀ {l : List Rg}, disjB l = true → ∀ {i j : Nat} {r s : Rg}, i < j → l[i]? = some r → l[j]? = some s → ∀ t, r.d.testBit t = true → s.d.testBit t = true → False
  | [], _, i, j, r, s, _, h1, _, _, _, _ => by simp at h1
  | a :: l, h, i, j, r, s, hij, h1, h2, t, ht, hs => by
    simp only [disjB] at h
    cases hb : Nat.beq (Nat.land a.d (rdB l)) 0 with
    | false => rw [hb] at h; cases h
    | true =>
      rw [hb] at h
      simp only [cond_true] at h
      cases j with
      | zero => omega
      | succ j =>
        simp only [List.getElem?_cons_succ] at h2
        cases i with
        | zero =>
          simp only [List.getElem?_cons_zero, Option.some.injEq] at h1
          subst h1
          have h3 := rdB_test hs (List.mem_of_getElem? h2)
          have h4 := land_test a.d (rdB l) t
          rw [beq_true.1 hb, ht, h3] at h4
          simp at h4
        | succ i =>
          simp only [List.getElem?_cons_succ] at h1
          exact disjB_ok h (by omega) h1 h2 t ht hs
structure Ssa (all : Array Oper) : Prop where
  dst : ∀ (i j : Nat) (oi oj : Oper) (t : Nat), all[i]? = some oi → all[j]? = some oj → oi.dst = some t → oj.dst = some t → i = j
  look : ∀ (i x : Nat) (oi ox : Oper) (t : Nat), all[i]? = some oi → all[x]? = some ox → t ∈ oi.looksAt all → ox.dst = some t → (∃ e ∈ oi.after, Region.binds .any e = true ∧ e.on = x) ∨ (∃ e ∈ ox.after, Region.binds .any e = true ∧ e.on = i) ∨ x = i
  sel : ∀ (j : Nat) (o : Oper) (cs : Array SelectCase) (b : Bool), all[j]? = some o → o.op ≠ .select cs b
theorem dstB_test {d : Option Nat} {t : Nat} : (dstB d).testBit t = true ↔ d = some t := by
  cases d with
  | none => simp [dstB]
  | some u => simp only [dstB, pow_test, decide_eq_true_eq, Option.some.injEq]
theorem adB_test {all : Array Oper} {t : Nat} : ∀ {l : List Nat}, (adB all l).testBit t = true ↔ ∃ j ∈ l, ((all[j]?).bind fun o => o.dst) = some t
  | [] => by simp [adB, lfold_nil]
  | a :: l => by
    have ih := adB_test (all := all) (t := t) (l := l)
    unfold adB at ih ⊢
    rw [lfold_cons, lor_test, Bool.or_eq_true, ih, dstB_test]
    simp
theorem laterB_test {b t : Nat} : ∀ {l : List Rg}, (laterB l b).testBit t = true → ∃ s ∈ l, Nat.land s.af b ≠ 0 ∧ s.d.testBit t = true
  | [], h => by simp [laterB, lfold_nil] at h
  | s :: l, h => by
    have e : laterB (s :: l) b = bif Nat.beq (Nat.land s.af b) 0 then laterB l b else Nat.lor s.d (laterB l b) := rfl
    rw [e] at h
    cases hb : Nat.beq (Nat.land s.af b) 0 with
    | true =>
      rw [hb] at h
      obtain ⟨r, h1, h2⟩ := laterB_test (l := l) h
      exact ⟨r, List.mem_cons_of_mem _ h1, h2⟩
    | false =>
      rw [hb] at h
      simp only [cond_false, lor_test, Bool.or_eq_true] at h
      rcases h with h | h
      · exact ⟨s, List.mem_cons_self, beq_false.1 hb, h⟩
      · obtain ⟨r, h1, h2⟩ := laterB_test (l := l) h
        exact ⟨r, List.mem_cons_of_mem _ h1, h2⟩
theorem lookB_ok {l : List Rg} {D : Nat} {r : Rg} (h : lookB l D r = true) {t : Nat} (h1 : r.lk.testBit t = true) (h2 : D.testBit t = true) : r.ad.testBit t = true ∨ r.d.testBit t = true ∨ (laterB l r.b).testBit t = true := by
  unfold lookB at h
  simp only at h
  have hx : (Nat.land r.lk D).testBit t = true := by rw [land_test, h1, h2]; rfl
  cases hb : Nat.beq (Nat.land (Nat.land r.lk D) r.ad) (Nat.land r.lk D) with
  | true => exact .inl (land_sub.1 hb t hx)
  | false =>
    rw [hb] at h
    have h3 := land_sub.1 h t hx
    simp only [lor_test, Bool.or_eq_true] at h3
    rcases h3 with (h3 | h3) | h3
    · exact .inl h3
    · exact .inr (.inl h3)
    · exact .inr (.inr h3)
theorem ssaB_ok {all : Array Oper} (h : ssaB (prep all) = true) : Ssa all := by
  unfold ssaB at h
  cases hd : disjB (prep all) with
  | false => simp [hd] at h
  | true =>
    simp only [hd, cond_true] at h
    rw [allB_iff] at h
    have hdst : ∀ (i j : Nat) (oi oj : Oper) (t : Nat), all[i]? = some oi → all[j]? = some oj → oi.dst = some t → oj.dst = some t → i = j := by
      intro i j oi oj t hi hj h1 h2
      have gi : (prep all)[i]? = some (rgOf all i oi) := by rw [prep_get, hi]; rfl
      have gj : (prep all)[j]? = some (rgOf all j oj) := by rw [prep_get, hj]; rfl
      have ti : (rgOf all i oi).d.testBit t = true := dstB_test.2 h1
      have tj : (rgOf all j oj).d.testBit t = true := dstB_test.2 h2
      rcases Nat.lt_trichotomy i j with hlt | heq | hgt
      · exact (disjB_ok hd hlt gi gj t ti tj).elim
      · exact heq
      · exact (disjB_ok hd hgt gj gi t tj ti).elim
    refine ⟨hdst, fun i x oi ox t hi hx hl ht => ?_, fun j o cs b hj e => ?_⟩
    · have hm : rgOf all i oi ∈ prep all := prep_mem.2 ⟨i, oi, hi, rfl⟩
      have h1 := h _ hm
      cases hn : noSel (rgOf all i oi).o.op with
      | false => rw [hn] at h1; cases h1
      | true =>
        rw [hn] at h1
        simp only [cond_true] at h1
        have hD := rdB_test (r := rgOf all x ox) (dstB_test.2 ht) (prep_mem.2 ⟨x, ox, hx, rfl⟩)
        rcases lookB_ok h1 ((bitsL_test t _).2 hl) hD with h2 | h2 | h2
        · obtain ⟨j, hj, hjt⟩ := adB_test.1 h2
          rw [Option.bind_eq_some_iff] at hjt
          obtain ⟨oj, hoj, hjd⟩ := hjt
          have := hdst j x oj ox t hoj hx hjd ht
          subst this
          exact .inl (mem_aheads.1 hj)
        · exact .inr (.inr (hdst x i ox oi t hx hi ht (dstB_test.1 h2)))
        · obtain ⟨s, hs, h3, h4⟩ := laterB_test h2
          obtain ⟨k, ok, hok, rfl⟩ := prep_mem.1 hs
          have := hdst k x ok ox t hok hx (dstB_test.1 h4) ht
          subst this
          refine .inr (.inl ?_)
          rw [hx] at hok
          cases hok
          have h5 : (rgOf all k ox).af.testBit i = true := by
            cases hb : (rgOf all k ox).af.testBit i with
            | true => rfl
            | false =>
              refine absurd (Nat.eq_of_testBit_eq fun u => ?_) h3
              rw [land_test, Nat.zero_testBit]
              show ((rgOf all k ox).af.testBit u && (Nat.pow 2 i).testBit u) = false
              rw [pow_test]
              by_cases e : i = u
              · subst e; rw [hb]; rfl
              · simp [e]
          exact mem_aheads.1 ((bitsL_test i _).1 h5)
    · have h1 := h _ (prep_mem.2 ⟨j, o, hj, rfl⟩)
      have : noSel (rgOf all j o).o.op = false := by show noSel o.op = false; rw [e]; rfl
      rw [this] at h1; cases h1
theorem Ssa.free {all : Array Oper} (h : Ssa all) {i : Nat} {oi : Oper} (hi : all[i]? = some oi) {listed : Array Bool} (hr : i ∈ Region.ready .any all listed) (j : Nat) (oj : Oper)
    (hj : all[j]? = some oj) (hne : j ≠ i) (hun : listed.getD j true = false) (hno : ∀ e ∈ oj.after, Region.binds .any e = true → e.on ≠ i) : oi.apart all oj = true := by
  have late : ∀ e ∈ oi.after, Region.binds .any e = true → e.on = j → False := by
    intro e h1 h2 h3
    obtain ⟨_, o', ho', hall⟩ := mem_ready.1 hr
    rw [hi] at ho'
    cases ho'
    have h4 := hall e h1 h2
    rw [h3] at h4
    rcases Nat.lt_or_ge j listed.size with h' | h'
    · simp [h'] at hun h4; rw [hun] at h4; cases h4
    · simp [Array.getElem?_eq_none h'] at h4
  have p1 : ∀ d, oi.dst = some d → d ∉ oj.looksAt all := by
    intro d hd hl
    rcases h.look j i oj oi d hj hi hl hd with ⟨e, h1, h2, h3⟩ | ⟨e, h1, h2, h3⟩ | h1
    · exact hno e h1 h2 h3
    · exact late e h1 h2 h3
    · exact hne h1.symm
  have p2 : ∀ d, oi.dst = some d → oj.dst ≠ some d := fun d hd hj2 => hne (h.dst j i oj oi d hj hi hj2 hd)
  have p3 : ∀ d, oj.dst = some d → d ∉ oi.looksAt all := by
    intro d hd hl
    rcases h.look i j oi oj d hi hj hl hd with ⟨e, h1, h2, h3⟩ | ⟨e, h1, h2, h3⟩ | h1
    · exact late e h1 h2 h3
    · exact hno e h1 h2 h3
    · exact hne h1
  unfold Oper.apart
  cases hx : oi.dst with
  | none =>
    cases hy : oj.dst with
    | none => rfl
    | some d => simp [p3 d hy]
  | some c =>
    have q1 := p1 c hx
    have q2 := p2 c hx
    cases hy : oj.dst with
    | none => simp [q1]
    | some d =>
      rw [hy] at q2
      have : d ≠ c := fun e => q2 (by rw [e])
      simp [q1, p3 d hy, this]

theorem wnt_fork_wanted {all : Array Oper} {o : Oper} {fr : List (Nat × SV)} {x : X} {d : Nat} {want : Bool} (h : wnt all o fr = some (.fork x d want)) {ρ : Env} {σ : Pl} {n : Nat} {a : Act} (hf : FrOk ρ σ fr n a) :
    Region.wanted o (yielded all a.tmps) = ((x.den ρ).asB == want) := by
  obtain ⟨j, hg, hd, hx⟩ := wnt_fork h
  have h1 : a.tmps.getD d undef = .bool (x.den ρ).asB := hf.get d _ hx
  have hget : a.tmps[d]? = some (.bool (x.den ρ).asB) := by
    rw [Array.getD_eq_getD_getElem?] at h1
    cases hq : a.tmps[d]? with
    | none => rw [hq] at h1; simp [undef] at h1
    | some q => rw [hq] at h1; simp at h1; rw [h1]
  unfold Region.wanted
  simp only [hg, yielded, hd, Option.bind_some, hget]
  cases (x.den ρ).asB <;> cases want <;> rfl
theorem litB_known {fs : List Fact} {x : X} {b : Bool} (h : known fs (litB x b) = true) (ρ : Env) (hf : ∀ f ∈ fs, f.ok ρ) : (x.den ρ).asB = b := by
  have h1 := known_ok h ρ hf
  unfold litB at h1
  cases b with
  | true => exact h1
  | false => simp only [cond_false, mNot_den, Bool.not_eq_true'] at h1; exact h1
theorem wntD_yes {fs : List Fact} {all : Array Oper} {o : Oper} {fr : List (Nat × SV)} (h : wntD fs all o fr = some .yes) {ρ : Env} {σ : Pl} {n : Nat} {a : Act} (hf : FrOk ρ σ fr n a) (hs : ∀ f ∈ fs, f.ok ρ) : Region.wanted o (yielded all a.tmps) = true := by
  unfold wntD at h
  split at h
  · rename_i x d want hw
    rw [wnt_fork_wanted hw hf]
    cases h1 : known fs (litB x want) with
    | true => rw [litB_known h1 ρ hs]; simp
    | false =>
      simp only [h1, cond_false] at h
      cases h2 : known fs (litB x (!want)) <;> simp [h2] at h
  · exact wnt_yes h hf
theorem wntD_no {fs : List Fact} {all : Array Oper} {o : Oper} {fr : List (Nat × SV)} (h : wntD fs all o fr = some .no) {ρ : Env} {σ : Pl} {n : Nat} {a : Act} (hf : FrOk ρ σ fr n a) (hs : ∀ f ∈ fs, f.ok ρ) : Region.wanted o (yielded all a.tmps) = false := by
  unfold wntD at h
  split at h
  · rename_i x d want hw
    rw [wnt_fork_wanted hw hf]
    cases h1 : known fs (litB x want) with
    | true => simp [h1] at h
    | false =>
      simp only [h1, cond_false] at h
      cases h2 : known fs (litB x (!want)) with
      | true => rw [litB_known h2 ρ hs]; cases want <;> rfl
      | false => simp [h2] at h
  · exact wnt_no h hf

theorem stepD_ok {C : Ctx} (hC : CtxOk P w0.i C) {cf : CallF} (hcf : CfOk P w0.i C cf) {all : Array Oper} {i : Nat} {o : Oper} (ho : all[i]? = some o) {st s : St} {ob : List Obl} (e : stepD C cf all i o st = some (ob, s)) (hob : ∀ o ∈ ob, o.ok w0)
    {B : Nat → Prop} {ρ : Env} {σ : Pl} {a : Act} {w : World} (hr : HRep w0 B ρ σ st.h w) (hf : FRep ρ σ st.h st.fr st.n a) {K : Act → World → Prop} {Q : Exit → Act → World → Prop}
    (hp : Post w0 B ρ σ st.h s K) : wpOp P all Q i K a w := by
  unfold stepD at e
  unfold wpOp
  simp only [ho]
  split at e
  · rename_i hw
    rw [if_pos (wntD_yes hw hf.now hr.now.facts)]
    split at e
    · rename_i ob' s' hs
      simp only [Option.some.injEq, Prod.mk.injEq] at e
      obtain ⟨rfl, rfl⟩ := e
      refine .inl (stepO_ok hC hcf hs hob hr hf fun s2 hs2 => ?_)
      simp only [List.mem_singleton] at hs2
      subst hs2; exact hp
    · cases e
  · rename_i hw
    rw [if_neg (by simp [wntD_no hw hf.now hr.now.facts])]
    rw [Option.map_eq_some_iff] at e
    obtain ⟨s', hs', e⟩ := e
    cases e
    obtain ⟨e1, e2⟩ := putS_undef hs' hf
    exact hp ρ σ _ _ (Ext.refl _ _ _) (by rw [e1]; exact H.le.refl _) (by rw [e1]; exact hr) e2
  · cases e
theorem litK_ok {fs : List Fact} {ρ : Env} (hf : ∀ f ∈ fs, f.ok ρ) (σ : Pl) (v : SV) : (litK fs v).val ρ σ = v.val ρ σ := by
  unfold litK
  split
  · rfl
  · rename_i x _
    cases h1 : known fs x with
    | true => simp only [cond_true, SV.val, X.den, asB_b, known_ok h1 ρ hf]
    | false =>
      simp only [cond_false]
      cases h2 : known fs (mNot x) with
      | true =>
        have := known_ok h2 ρ hf
        rw [mNot_den, Bool.not_eq_true'] at this
        simp only [cond_true, SV.val, X.den, asB_b, this]
      | false => rfl
  · rfl
theorem stepP_ok {C : Ctx} (hC : CtxOk P w0.i C) {all : Array Oper} {o : Oper} {st s : St} {ob : List Obl} (e : stepP C all o st = some (ob, s)) (hob : ∀ o ∈ ob, o.ok w0)
    {B : Nat → Prop} {ρ : Env} {σ : Pl} {a : Act} {w : World} (hr : HRep w0 B ρ σ st.h w) (hf : FRep ρ σ st.h st.fr st.n a) :
    ∃ v, Yields P all o v a ∧ s.h = st.h ∧ FRep ρ σ s.h s.fr s.n (a.put o.dst v) := by
  unfold stepP at e
  split at e
  · rename_i hw
    obtain ⟨q, hq, e⟩ := bind1 e
    rw [Option.map_eq_some_iff] at e
    obtain ⟨s', hs', e⟩ := e
    simp only [Prod.mk.injEq] at e
    obtain ⟨rfl, rfl⟩ := e
    have hg := obls_ok (fs := st.h.fs) (l := q.1) hob
    have run : ∀ ρ₁ σ₁, Ext st.h ρ ρ₁ σ σ₁ → ∀ w, (execOp a.eval o).run P w = .ok (.value (q.2.val ρ₁ σ₁)) w := fun ρ₁ σ₁ he w =>
      pureOp_ok hC.tt (fun x s hs => ev_ok (hf _ _ he) hs) hq w (hg ρ₁ (hr _ _ he).ip (hr _ _ he).facts)
    have h0 := run ρ σ (Ext.refl _ _ _)
    obtain ⟨e1, e2⟩ := putS_val hs' hf (v := q.2.val ρ σ) (fun ρ₁ σ₁ he => by
      have h1 := run ρ₁ σ₁ he w
      rw [h0 w] at h1
      simp only [Result.ok.injEq, Next.value.injEq, and_true] at h1
      simp [litK_ok (hr _ _ he).facts, h1])
    exact ⟨_, .inl ⟨wntD_yes hw hf.now hr.now.facts, h0⟩, e1, e2⟩
  · rename_i hw
    rw [Option.map_eq_some_iff] at e
    obtain ⟨s', hs', e⟩ := e
    cases e
    obtain ⟨e1, e2⟩ := putS_undef hs' hf
    exact ⟨undef, .inr ⟨by simp [wntD_no hw hf.now hr.now.facts], rfl⟩, e1, e2⟩
  · cases e
theorem firstP_mem {C : Ctx} {all : Array Oper} {st : St} : ∀ {l : List Rg} {q : Rg × List Obl × St}, firstP C all st l = some q → q.1 ∈ l ∧ stepP C all q.1.o st = some q.2
  | [], q, e => by cases e
  | r :: l, q, e => by
    simp only [firstP] at e
    split at e
    · rename_i p hp
      cases e
      exact ⟨List.mem_cons_self, hp⟩
    · obtain ⟨h1, h2⟩ := firstP_mem e
      exact ⟨List.mem_cons_of_mem _ h1, h2⟩

theorem insL_mem {m : Nat} {st : St} : ∀ {l r : List (Nat × St)}, insL m st l = some r → (m, st) ∈ r ∧ ∀ x ∈ l, x ∈ r
  | [], r, h => by simp only [insL, Option.some.injEq] at h; subst h; simp
  | (k, s) :: l, r, h => by
    simp only [insL] at h
    cases hb : Nat.beq k m with
    | true =>
      simp only [hb, cond_true] at h
      cases hs : Steq s st with
      | false => simp [hs] at h
      | true =>
        simp only [hs, cond_true, Option.some.injEq] at h
        subst h
        have := Steq_eq _ _ hs
        have hk := beq_true.1 hb
        subst this hk
        exact ⟨List.mem_cons_self, fun x hx => hx⟩
    | false =>
      simp only [hb, cond_false] at h
      rw [Option.map_eq_some_iff] at h
      obtain ⟨r', hr', h⟩ := h
      subst h
      obtain ⟨h1, h2⟩ := insL_mem hr'
      refine ⟨List.mem_cons_of_mem _ h1, fun x hx => ?_⟩
      simp only [List.mem_cons] at hx ⊢
      rcases hx with rfl | hx
      · exact .inl rfl
      · exact .inr (h2 x hx)
theorem stepL_mem {C : Ctx} {cf : CallF} {all : Array Oper} {mask : Nat} {st : St} : ∀ {l : List Rg} {acc r : List (Nat × St)} {ob : List Obl}, stepL C cf all mask st l acc = some (ob, r) →
    (∀ x ∈ acc, x ∈ r) ∧ ∀ i ∈ l, ∃ ob' s, stepD C cf all i.i i.o st = some (ob', s) ∧ (∀ o ∈ ob', o ∈ ob) ∧ (Nat.lor mask i.b, s) ∈ r
  | [], acc, r, ob, h => by simp only [stepL, Option.some.injEq, Prod.mk.injEq] at h; obtain ⟨_, rfl⟩ := h; exact ⟨fun x hx => hx, by simp⟩
  | i :: l, acc, r, ob, h => by
    simp only [stepL] at h
    obtain ⟨q, hq, h⟩ := bind1 h
    obtain ⟨acc', ha, h⟩ := bind1 h
    rw [Option.map_eq_some_iff] at h
    obtain ⟨t, ht, h⟩ := h
    cases h
    obtain ⟨h1, h2⟩ := insL_mem ha
    obtain ⟨h3, h4⟩ := stepL_mem (ob := t.1) (r := t.2) ht
    refine ⟨fun x hx => h3 x (h2 x hx), fun j hj => ?_⟩
    simp only [List.mem_cons] at hj
    rcases hj with rfl | hj
    · exact ⟨q.1, q.2, hq, fun o ho => List.mem_append_left _ ho, h3 _ h1⟩
    · obtain ⟨ob', s, h5, h6, h7⟩ := h4 j hj
      exact ⟨ob', s, h5, fun o ho => List.mem_append_right _ (h6 o ho), h7⟩
/-- what is known of a state with all its steps. -/
def Stepped (C : Ctx) (cf : CallF) (all : Array Oper) (pre : List Rg) (sf : Bool) (p : Nat × St) (ob : List Obl) (r : List (Nat × St)) : Prop :=
  (sf = true ∧ ∃ q ∈ readyP pre p.1, ∃ ob' s, stepP C all q.o p.2 = some (ob', s) ∧ (∀ o ∈ ob', o ∈ ob) ∧ (Nat.lor p.1 q.b, s) ∈ r) ∨
  ∀ i ∈ readyP pre p.1, ∃ ob' s, stepD C cf all i.i i.o p.2 = some (ob', s) ∧ (∀ o ∈ ob', o ∈ ob) ∧ (Nat.lor p.1 i.b, s) ∈ r
theorem Stepped.mono {C : Ctx} {cf : CallF} {all : Array Oper} {pre : List Rg} {sf : Bool} {p : Nat × St} {ob ob2 : List Obl} {r r2 : List (Nat × St)} (h : Stepped C cf all pre sf p ob r) (h1 : ∀ o ∈ ob, o ∈ ob2) (h2 : ∀ x ∈ r, x ∈ r2) : Stepped C cf all pre sf p ob2 r2 := by
  rcases h with ⟨h0, q, hq, ob', s, h3, h4, h5⟩ | h
  · exact .inl ⟨h0, q, hq, ob', s, h3, fun o ho => h1 o (h4 o ho), h2 _ h5⟩
  · refine .inr fun i hi => ?_
    obtain ⟨ob', s, h3, h4, h5⟩ := h i hi
    exact ⟨ob', s, h3, fun o ho => h1 o (h4 o ho), h2 _ h5⟩
theorem stepAll_mem {C : Ctx} {cf : CallF} {all : Array Oper} {pre : List Rg} {sf : Bool} : ∀ {l acc r : List (Nat × St)} {ob : List Obl}, stepAll C cf all pre sf l acc = some (ob, r) →
    (∀ x ∈ acc, x ∈ r) ∧ ∀ p ∈ l, readyP pre p.1 ≠ [] ∧ Stepped C cf all pre sf p ob r
  | [], acc, r, ob, h => by simp only [stepAll, Option.some.injEq, Prod.mk.injEq] at h; obtain ⟨_, rfl⟩ := h; exact ⟨fun x hx => hx, by simp⟩
  | (m, st) :: l, acc, r, ob, h => by
    simp only [stepAll] at h
    split at h
    · cases h
    · rename_i hne
      split at h
      · rename_i q hq
        obtain ⟨hsf, hq⟩ := bndo hq
        obtain ⟨hq1, hq2⟩ := firstP_mem hq
        obtain ⟨acc', ha, h⟩ := bind1 h
        rw [Option.map_eq_some_iff] at h
        obtain ⟨t, ht, h⟩ := h
        cases h
        obtain ⟨h1, h2⟩ := insL_mem ha
        obtain ⟨h3, h4⟩ := stepAll_mem (ob := t.1) (r := t.2) ht
        refine ⟨fun x hx => h3 x (h2 x hx), fun p hp => ?_⟩
        simp only [List.mem_cons] at hp
        rcases hp with rfl | hp
        · exact ⟨fun e => hne e, .inl ⟨hsf, q.1, hq1, q.2.1, q.2.2, hq2, fun o ho => List.mem_append_left _ ho, h3 _ h1⟩⟩
        · exact ⟨(h4 p hp).1, (h4 p hp).2.mono (fun o ho => List.mem_append_right _ ho) fun _ h => h⟩
      · obtain ⟨q, hq, h⟩ := bind1 h
        rw [Option.map_eq_some_iff] at h
        obtain ⟨t, ht, h⟩ := h
        cases h
        obtain ⟨h1, h2⟩ := stepL_mem (ob := q.1) (r := q.2) hq
        obtain ⟨h3, h4⟩ := stepAll_mem (ob := t.1) (r := t.2) ht
        refine ⟨fun x hx => h3 x (h1 x hx), fun p hp => ?_⟩
        simp only [List.mem_cons] at hp
        rcases hp with rfl | hp
        · refine ⟨fun e => hne e, .inr fun i hi => ?_⟩
          obtain ⟨ob', s, h5, h6, h7⟩ := h2 i hi
          exact ⟨ob', s, h5, fun o ho => List.mem_append_left _ (h6 o ho), h3 _ h7⟩
        · exact ⟨(h4 p hp).1, (h4 p hp).2.mono (fun o ho => List.mem_append_right _ ho) fun _ h => h⟩

/-- The two ways to say which have been done. -/
def Lm (all : Array Oper) (listed : Array Bool) (m : Nat) : Prop := listed.size = all.size ∧ ∀ i, listed.getD i false = m.testBit i
theorem Lm.ready {all : Array Oper} {listed : Array Bool} {m : Nat} (h : Lm all listed m) {i : Nat} : i ∈ Region.ready .any all listed ↔ ∃ o, all[i]? = some o ∧ rgOf all i o ∈ readyP (prep all) m := by
  rw [mem_ready]
  constructor
  · rintro ⟨h0, o, ho, hall⟩
    refine ⟨o, ho, ?_⟩
    unfold readyP
    rw [filB_eq, List.mem_filter]
    refine ⟨prep_mem.2 ⟨i, o, ho, rfl⟩, ?_⟩
    have hlt : i < listed.size := by rw [h.1]; exact (Array.getElem?_eq_some_iff.1 ho).1
    have h1 : m.testBit i = false := by
      rw [← h.2 i]
      simp only [Array.getD_eq_getD_getElem?, Array.getElem?_eq_getElem hlt, Option.getD_some] at h0 ⊢
      exact h0
    have h2 : Nat.beq (Nat.land (rgOf all i o).b m) 0 = true := land_zero.2 h1
    rw [h2]
    refine land_sub.2 fun t ht => ?_
    obtain ⟨e, e1, e2, e3⟩ := mem_aheads.1 ((bitsL_test t _).1 ht)
    rw [← h.2 t, ← e3]
    exact hall e e1 e2
  · rintro ⟨o, ho, hr⟩
    unfold readyP at hr
    rw [filB_eq, List.mem_filter] at hr
    obtain ⟨_, hr⟩ := hr
    cases h2 : Nat.beq (Nat.land (rgOf all i o).b m) 0 with
    | false => rw [h2] at hr; cases hr
    | true =>
      rw [h2] at hr
      simp only [cond_true] at hr
      have hlt : i < listed.size := by rw [h.1]; exact (Array.getElem?_eq_some_iff.1 ho).1
      have h1 := land_zero.1 h2
      refine ⟨?_, o, ho, fun e e1 e2 => ?_⟩
      · rw [← h.2 i] at h1
        simp only [Array.getD_eq_getD_getElem?, Array.getElem?_eq_getElem hlt, Option.getD_some] at h1 ⊢
        exact h1
      · rw [h.2]
        exact land_sub.1 hr _ ((bitsL_test _ _).2 (mem_aheads.2 ⟨e, e1, e2, rfl⟩))
theorem Lm.none {all : Array Oper} {listed : Array Bool} {m : Nat} (h : Lm all listed m) : Region.ready .any all listed = [] ↔ readyP (prep all) m = [] := by
  constructor
  · intro e
    cases hr : readyP (prep all) m with
    | nil => rfl
    | cons r l =>
      have h1 : r ∈ readyP (prep all) m := by rw [hr]; exact List.mem_cons_self
      have h2 := h1
      unfold readyP at h1
      rw [filB_eq, List.mem_filter] at h1
      obtain ⟨i, o, ho, rfl⟩ := prep_mem.1 h1.1
      have := h.ready.2 ⟨o, ho, h2⟩
      rw [e] at this; cases this
  · intro e
    cases hr : Region.ready .any all listed with
    | nil => rfl
    | cons i l =>
      obtain ⟨o, _, h2⟩ := h.ready.1 (show i ∈ Region.ready .any all listed by rw [hr]; exact List.mem_cons_self)
      rw [e] at h2; cases h2
theorem Lm.set {all : Array Oper} {listed : Array Bool} {m i : Nat} (h : Lm all listed m) (hi : i < all.size) : Lm all (listed.setIfInBounds i true) (Nat.lor m (Nat.pow 2 i)) := by
  show Lm all (listed.setIfInBounds i true) (m ||| 2 ^ i)
  refine ⟨by simp [h.1], fun j => ?_⟩
  rw [testBit_or_pow, ← h.2 j]
  simp only [Array.getD_eq_getD_getElem?, Array.getElem?_setIfInBounds]
  by_cases e : i = j
  · subst e; simp [h.1, hi]
  · simp [e]

theorem dpRun_ok {C : Ctx} (hC : CtxOk P w0.i C) {cf : CallF} (hcf : CfOk P w0.i C cf) {all : Array Oper} {stF : St} {sf : Bool} (hsf : sf = true → Ssa all) : ∀ {f : Nat} {l : List (Nat × St)} {ob : List Obl}, dpRun C cf all (prep all) sf f l = some (ob, stF) → (∀ o ∈ ob, o.ok w0) →
    ∀ p ∈ l, ∀ listed, Lm all listed p.1 → ∀ {B : Nat → Prop} {ρ : Env} {σ : Pl} {a : Act} {w : World}, HRep w0 B ρ σ p.2.h w → FRep ρ σ p.2.h p.2.fr p.2.n a → ∀ {Q : Exit → Act → World → Prop}, (∀ c a w, ¬ Q (.panic c) a w) →
    Post w0 B ρ σ p.2.h stF (Q .normal) → wpAny P .any all Q f listed a w
  | 0, l, ob, e, hob, p, hp, listed, hl, B, ρ, σ, a, w, hr, hf, Q, hQ, hpost => by
    unfold dpRun at e
    split at e
    · rename_i m st _
      split at e
      · rename_i hready
        simp only [Option.some.injEq, Prod.mk.injEq] at e
        obtain ⟨_, rfl⟩ := e
        simp only [List.mem_singleton] at hp
        subst hp
        refine ⟨hl.none.2 hready, hpost ρ σ a w (Ext.refl _ _ _) (H.le.refl _) hr hf⟩
      · cases e
    · cases e
    · rename_i hx; simp at hx
  | f + 1, l, ob, e, hob, p, hp, listed, hl, B, ρ, σ, a, w, hr, hf, Q, hQ, hpost => by
    simp only [dpRun] at e
    obtain ⟨q, hq, e⟩ := bind1 e
    rw [Option.map_eq_some_iff] at e
    obtain ⟨t, ht, e⟩ := e
    simp only [Prod.mk.injEq] at e
    obtain ⟨rfl, rfl⟩ := e
    obtain ⟨_, h4⟩ := stepAll_mem (ob := q.1) (r := q.2) hq
    obtain ⟨hne, hst⟩ := h4 p hp
    have ofReady : ∀ r ∈ readyP (prep all) p.1, ∃ i o, all[i]? = some o ∧ r = rgOf all i o ∧ i ∈ Region.ready .any all listed := by
      intro r hr
      have h2 := hr
      unfold readyP at hr
      rw [filB_eq, List.mem_filter] at hr
      obtain ⟨i, o, ho, rfl⟩ := prep_mem.1 hr.1
      exact ⟨i, o, ho, rfl, hl.ready.2 ⟨o, ho, h2⟩⟩
    rcases hst with ⟨h0, r, hrr, ob', s, h5, h6, h7⟩ | hst
    · obtain ⟨i, o, ho, rfl, hir⟩ := ofReady r hrr
      have hlt : i < all.size := (Array.getElem?_eq_some_iff.1 ho).1
      obtain ⟨v, hy, e1, e2⟩ := stepP_ok hC h5 (fun o ho => hob o (List.mem_append_left _ (h6 o ho))) hr hf
      have hs := hsf h0
      refine wpAny_first ho hs.sel (fun c a w h => (hQ _ _ _ h).elim) f listed a w (fun j oj hj hne hun hno => hs.free ho hir j oj hj hne hun hno) hir hy ?_
      exact dpRun_ok hC hcf hsf (ob := t.1) ht (fun o ho => hob o (List.mem_append_right _ ho)) (Nat.lor p.1 (rgOf all i o).b, s) h7 _ (hl.set hlt) (by rw [e1]; exact hr) e2 hQ (hpost.from (h' := s.h) (Ext.refl _ _ _) (by rw [e1]; exact H.le.refl _))
    · refine ⟨fun hx => absurd (hl.none.1 hx) hne, fun i hi => ?_⟩
      obtain ⟨o, ho, hrr⟩ := hl.ready.1 hi
      obtain ⟨ob', s, h5, h6, h7⟩ := hst _ hrr
      have hlt : i < all.size := (Array.getElem?_eq_some_iff.1 ho).1
      refine stepD_ok hC hcf ho h5 (fun o ho => hob o (List.mem_append_left _ (h6 o ho))) hr hf ?_
      intro ρ' σ' a' w' he hle hr' hf'
      exact dpRun_ok hC hcf hsf (ob := t.1) ht (fun o ho => hob o (List.mem_append_right _ ho)) (Nat.lor p.1 (rgOf all i o).b, s) h7 _ (hl.set hlt) hr' hf' hQ (hpost.from he hle)

theorem settleD_le {n : Nat} {st : St} (h1 : st.h.xb < 2 ^ n) (h2 : st.h.xv < 2 ^ n) : st.h.le (settleD n st).h := by
  refine ⟨fun i hi => .inl ?_, fun i hi => .inl ?_⟩
  · show i < st.h.nv + n
    rcases hi with hi | ⟨h3, h4⟩
    · omega
    · rcases Nat.lt_or_ge (i - st.h.nv) n with hlt | hge
      · omega
      · rw [Nat.testBit_lt_two_pow (Nat.lt_of_lt_of_le h2 (Nat.pow_le_pow_right (by omega) hge))] at h4; cases h4
  · show i < st.h.nb + n
    rcases hi with hi | ⟨h3, h4⟩
    · omega
    · rcases Nat.lt_or_ge (i - st.h.nb) n with hlt | hge
      · omega
      · rw [Nat.testBit_lt_two_pow (Nat.lt_of_lt_of_le h1 (Nat.pow_le_pow_right (by omega) hge))] at h4; cases h4
theorem HRep.drew {B : Nat → Prop} {ρ : Env} {σ : Pl} {h : H} {w : World} (r : HRep w0 B ρ σ h w) : HRep w0 B ρ σ h { w with drawn := w.drawn + 1 } := by
  intro ρ' σ' he
  have h1 := r _ _ he
  refine ⟨h1.ip, h1.lay, h1.below.trans ⟨rfl, rfl, rfl, Nat.le_refl _, fun _ _ => rfl⟩, h1.size, fun b k hk => ?_, h1.apart, h1.bors, h1.facts⟩
  exact (h1.blk b k hk).congr fun _ _ => rfl

theorem execDraw_ok {C : Ctx} (hC : CtxOk P w0.i C) {cf : CallF} (hcf : CfOk P w0.i C cf) {all : Array Oper} {st : St} {ob : List Obl} {sts : List St} (e : execDraw C cf all st = some (ob, sts)) (hob : ∀ o ∈ ob, o.ok w0)
    {B : Nat → Prop} {ρ : Env} {σ : Pl} {a : Act} {w : World} (hr : HRep w0 B ρ σ st.h w) (hf : FRep ρ σ st.h st.fr st.n a) {Q : Exit → Act → World → Prop}
    (hp : ∀ s ∈ sts, Post w0 B ρ σ st.h s (Q .normal)) (id : Nat) : (Code.region id all true).wp P Q a w := by
  unfold execDraw at e
  obtain ⟨q, hq, e⟩ := bind1 e
  cases hb : (Nat.blt q.2.h.xb (2 ^ all.size) && Nat.blt q.2.h.xv (2 ^ all.size)) with
  | false => simp [hb] at e
  | true =>
    simp only [hb, cond_true, Option.some.injEq, Prod.mk.injEq] at e
    obtain ⟨rfl, rfl⟩ := e
    simp only [Bool.and_eq_true, Nat.blt_eq] at hb
    have hp1 := hp _ List.mem_cons_self
    have hle := settleD_le hb.1 hb.2
    let Q' : Exit → Act → World → Prop := fun e a w => match e with
      | .panic _ => False
      | e => Q e a w
    refine wp_mono (Q := Q') ?_ (fun e a w h => by cases e <;> first | exact h | exact h.elim)
    refine wp_region_any hC.mo ?_
    refine dpRun_ok hC hcf (sf := ssaB (prep all)) ssaB_ok (ob := q.1) (stF := q.2) hq hob (0, st) List.mem_cons_self _ ⟨by simp, fun i => ?_⟩ hr.drew hf (fun c a w h => h) ?_
    · simp only [Array.getD_eq_getD_getElem?, Array.getElem?_replicate]
      split <;> simp
    · intro ρ' σ' a' w' he hl hr' hf'
      refine hp1 ρ' σ' a' w' he (hl.trans hle) ?_ (hf'.ext (Ext.refl _ _ _) hle)
      intro ρ₁ σ₁ he1
      have h1 := hr' _ _ (he1.of_le hle)
      exact ⟨h1.ip, h1.lay, h1.below, h1.size, h1.blk, h1.apart, fun c p s ks x hc => by obtain ⟨b1, b2⟩ := h1.bors c p s ks x hc; exact ⟨hle.b _ b1, b2⟩, h1.facts⟩

theorem splitD_ok {run : St → Option (List Obl × List St)} {M : (Exit → Act → World → Prop) → Act → World → Prop}
    (hrun : ∀ (st : St) (ob : List Obl) (sts : List St), run st = some (ob, sts) → (∀ o ∈ ob, o.ok w0) → ∀ {B : Nat → Prop} {ρ : Env} {σ : Pl} {a : Act} {w : World}, HRep w0 B ρ σ st.h w → FRep ρ σ st.h st.fr st.n a →
      ∀ {Q : Exit → Act → World → Prop}, (∀ s ∈ sts, Post w0 B ρ σ st.h s (Q .normal)) → M Q a w) :
    ∀ {l : List X} {st : St} {ob : List Obl} {sts : List St}, splitD run l st = some (ob, sts) → (∀ o ∈ ob, o.ok w0) → ∀ {B : Nat → Prop} {ρ : Env} {σ : Pl} {a : Act} {w : World}, HRep w0 B ρ σ st.h w → FRep ρ σ st.h st.fr st.n a →
      ∀ {Q : Exit → Act → World → Prop}, (∀ s ∈ sts, Post w0 B ρ σ st.h s (Q .normal)) → M Q a w
  | [], st, ob, sts, e, hob, B, ρ, σ, a, w, hr, hf, Q, hp => hrun st ob sts e hob hr hf hp
  | x :: l, st, ob, sts, e, hob, B, ρ, σ, a, w, hr, hf, Q, hp => by
    simp only [splitD] at e
    obtain ⟨hv, e⟩ := bndo e
    obtain ⟨o1, t1, o2, t2, ea, eb, ho1, ho2, ht1, ht2⟩ := both_mem e
    have hsame : ∀ ρ₁ σ₁, Ext st.h ρ ρ₁ σ σ₁ → (x.den ρ₁).asB = (x.den ρ).asB := fun ρ₁ σ₁ he => by
      rw [X.den_vs (p := st.h.alVb) he.f (fun i hi => he.v i (H.alVb_iff.1 hi)) hv]
    cases hb : (x.den ρ).asB with
    | true =>
      refine splitD_ok hrun ea (fun o ho => hob o (ho1 o ho)) (assume_rep hr fun ρ₁ σ₁ he => by rw [hsame _ _ he, hb]) (hf.ext (Ext.refl _ _ _) ⟨fun _ h => h, fun _ h => h⟩) ?_
      exact fun s hs => (hp s (ht1 s hs)).from (h' := (assume x true st).h) (Ext.refl _ _ _) ⟨fun _ h => h, fun _ h => h⟩
    | false =>
      refine splitD_ok hrun eb (fun o ho => hob o (ho2 o ho)) (assume_rep hr fun ρ₁ σ₁ he => by rw [hsame _ _ he, hb]) (hf.ext (Ext.refl _ _ _) ⟨fun _ h => h, fun _ h => h⟩) ?_
      exact fun s hs => (hp s (ht2 s hs)).from (h' := (assume x false st).h) (Ext.refl _ _ _) ⟨fun _ h => h, fun _ h => h⟩
def Ex.to : Ex → Exit
  | .nor => .normal
  | .exit id => .exit id
  | .ret => .ret
/-- what a piece of code must serve for. -/
def CodeOk (P : Program) (I : Interp) (c : Code) (st : St) (ob : List Obl) (outs : List Out) : Prop :=
  ∀ (w0 : W0), w0.i = I → (∀ o ∈ ob, o.ok w0) → ∀ {B : Nat → Prop} {ρ : Env} {σ : Pl} {a : Act} {w : World}, HRep w0 B ρ σ st.h w → FRep ρ σ st.h st.fr st.n a → ∀ {Q : Exit → Act → World → Prop},
    (∀ o ∈ outs, Post w0 B ρ σ st.h o.st (Q o.ex.to)) → c.wp P Q a w
theorem nors_ok {r : Option (List Obl × List St)} {ob : List Obl} {outs : List Out} (e : nors r = some (ob, outs)) : ∃ sts, r = some (ob, sts) ∧ ∀ s ∈ sts, ⟨.nor, s⟩ ∈ outs := by
  unfold nors at e
  rw [Option.map_eq_some_iff] at e
  obtain ⟨q, hq, e⟩ := e
  cases e
  exact ⟨q.2, hq, fun s hs => List.mem_map_of_mem hs⟩

/-- a loop's rounds, from any on. -/
def LoopWp (P : Program) (c : Code) (Q : Exit → Act → World → Prop) (a : Act) (w : World) : Prop :=
  ∀ (b : Frame) (k : List Item) (cs : List Frame), ∃ e a' w', Q e a' w' ∧ Arrives P (lone (b.at a (.code c :: .inLoop c :: k)) cs w) b k cs e a' w'
theorem wp_of_LoopWp {c : Code} {Q : Exit → Act → World → Prop} {a : Act} {w : World} (h : LoopWp P c Q a w) : (Code.loop c).wp P Q a w := by
  intro b k cs
  obtain ⟨e, a', w', hq, harr⟩ := h b k cs
  exact ⟨e, a', w', hq, .of_steps (.one step_loop) harr⟩
theorem LoopWp.round {c : Code} {Q : Exit → Act → World → Prop} {a : Act} {w : World} (h : c.wp P (Exit.then (LoopWp P c Q) Q) a w) : LoopWp P c Q a w := by
  intro b k cs
  obtain ⟨e, a₁, w₁, hq, harr⟩ := h b (.inLoop c :: k) cs
  cases e with
  | normal =>
    obtain ⟨e₂, a₂, w₂, hq₂, harr₂⟩ := hq b k cs
    exact ⟨e₂, a₂, w₂, hq₂, .of_steps (Steps.trans harr (.one step_inLoop)) harr₂⟩
  | _ => exact ⟨_, a₁, w₁, hq, .pass (x := .inLoop c) rfl (fun _ _ => .inl (by simp)) harr⟩

theorem roundT_mem {h0 : H} {t : Tm} : ∀ {l : List Out} {ob : List Obl} {r : List Out}, roundT h0 t l = some (ob, r) → ∀ o ∈ l, (o.ex = .nor ∧ ∃ g F, genSt h0 t.T o.st g = some F ∧ t.m.vs (blt' t.T.h.nv) = true ∧
      ∀ b ∈ fob o.st.h.fs (.x (.o .le (.n 0) (t.m.sub g.f)) :: .x (.o .lt (t.m.sub g.f) t.m) :: F), b ∈ ob) ∨ (o.ex ≠ .nor ∧ o ∈ r)
  | [], ob, r, e => by simp
  | o :: l, ob, r, e => by
    simp only [roundT] at e
    obtain ⟨q, hq, e⟩ := bind1 e
    intro x hx
    cases ho : o.ex with
    | nor =>
      simp only [ho] at e
      obtain ⟨F, hF, e⟩ := bind1 e
      obtain ⟨hm, e⟩ := bnd e
      cases e
      simp only [List.mem_cons] at hx
      rcases hx with rfl | hx
      · exact .inl ⟨ho, _, F, hF, hm, fun b hb => List.mem_append_left _ hb⟩
      · rcases roundT_mem (ob := q.1) (r := q.2) hq x hx with ⟨h1, g, F, h2, h3, h4⟩ | h1
        · exact .inl ⟨h1, g, F, h2, h3, fun b hb => List.mem_append_right _ (h4 b hb)⟩
        · exact .inr h1
    | exit id =>
      simp only [ho, Option.some.injEq, Prod.mk.injEq] at e
      obtain ⟨rfl, rfl⟩ := e
      simp only [List.mem_cons] at hx
      rcases hx with rfl | hx
      · exact .inr ⟨(by rw [ho]; intro h; cases h), List.mem_cons_self⟩
      · rcases roundT_mem (ob := q.1) (r := q.2) hq x hx with h1 | ⟨h1, h2⟩
        · exact .inl h1
        · exact .inr ⟨h1, List.mem_cons_of_mem _ h2⟩
    | ret =>
      simp only [ho, Option.some.injEq, Prod.mk.injEq] at e
      obtain ⟨rfl, rfl⟩ := e
      simp only [List.mem_cons] at hx
      rcases hx with rfl | hx
      · exact .inr ⟨(by rw [ho]; intro h; cases h), List.mem_cons_self⟩
      · rcases roundT_mem (ob := q.1) (r := q.2) hq x hx with h1 | ⟨h1, h2⟩
        · exact .inl h1
        · exact .inr ⟨h1, List.mem_cons_of_mem _ h2⟩
theorem loopT_ok {c : Code} {body : St → Option (List Obl × List Out)} (hb : ∀ st ob outs, body st = some (ob, outs) → CodeOk P w0.i c st ob outs) {t : Tm} {st : St} {ob : List Obl} {outs : List Out}
    (e : loopT body t st = some (ob, outs)) (hob : ∀ o ∈ ob, o.ok w0) {B : Nat → Prop} {ρ : Env} {σ : Pl} {a : Act} {w : World} (hrep : HRep w0 B ρ σ st.h w) (hfr : FRep ρ σ st.h st.fr st.n a)
    {Q : Exit → Act → World → Prop} (hp : ∀ o ∈ outs, Post w0 B ρ σ st.h o.st (Q o.ex.to)) : LoopWp P c Q a w := by
  unfold loopT at e
  obtain ⟨F, hF, e⟩ := bind1 e
  obtain ⟨q, hq, e⟩ := bind1 e
  rw [Option.map_eq_some_iff] at e
  obtain ⟨r, hr, e⟩ := e
  cases e
  have key : ∀ n (ρ' : Env) (σ' : Pl) (a' : Act) (w' : World), Ext st.h ρ ρ' σ σ' → st.h.le t.T.h → HRep w0 B ρ' σ' t.T.h w' → FRep ρ' σ' t.T.h t.T.fr t.T.n a' → (t.m.den ρ').asI.toNat < n → LoopWp P c Q a' w' := by
    intro n
    induction n with
    | zero => intro ρ' σ' a' w' _ _ _ _ h; omega
    | succ n ih =>
      intro ρ' σ' a' w' he hle hr' hf' hn
      refine LoopWp.round (hb t.T q.1 q.2 hq _ rfl (fun o ho => hob o (List.mem_append_right _ (List.mem_append_left _ ho))) hr' hf' fun o ho => ?_)
      intro ρ2 σ2 a2 w2 he2 hle2 hr2 hf2
      rcases roundT_mem (ob := r.1) (r := r.2) hr o ho with ⟨hx, g, F', h1, h2, h3⟩ | ⟨hx, hmem⟩
      · have hfs := fob_ok (w0 := w0) (fs := o.st.h.fs) (fun b hb => hob b (List.mem_append_right _ (List.mem_append_right _ (h3 b hb)))) ρ2 hr2.now.ip hr2.now.facts
        obtain ⟨k1, k2, k3, k4⟩ := genSt_ok h1 hr2.now hf2.now fun c hc => hfs c (List.mem_cons_of_mem _ (List.mem_cons_of_mem _ hc))
        have m1 := hfs _ List.mem_cons_self
        have m2 := hfs _ (List.mem_cons_of_mem _ List.mem_cons_self)
        simp only [Fact.ok, X.den, O2.den, asB_b, asI_i, ile_iff, ilt_iff, X.den_sub] at m1 m2
        have m3 : t.m.den ρ2 = t.m.den ρ' := X.den_vs he2.f (fun i hi => he2.v i (Or.inl (by simpa [blt', Nat.blt_eq] using hi))) h2
        rw [m3] at m2
        rw [hx]
        exact ih _ _ a2 w2 ((he.trans (he2.of_le hle) (fun _ h => h) (fun _ h => h)).trans k1 (fun _ h => h) (fun _ h => h)) hle k3 k4 (by omega)
      · have := hp o hmem ρ2 σ2 a2 w2 (he.trans (he2.of_le hle) (fun _ h => h) (fun _ h => h)) (hle.trans hle2) hr2 hf2
        cases hx2 : o.ex with
        | nor => exact absurd hx2 hx
        | exit id => rw [hx2] at this; exact this
        | ret => rw [hx2] at this; exact this
  have hfs := fob_ok (w0 := w0) (fs := st.h.fs) (fun b hb => hob b (List.mem_append_left _ hb)) ρ hrep.now.ip hrep.now.facts
  obtain ⟨k1, k2, k3, k4⟩ := genSt_ok hF hrep.now hfr.now hfs
  exact key _ _ _ a w k1 k2 k3 k4 (Nat.lt_succ_self _)

theorem execLoop_ok {c : Code} {body : St → Option (List Obl × List Out)} (hb : ∀ st ob outs, body st = some (ob, outs) → CodeOk P w0.i c st ob outs) {tm : St → Option Tm} :
    ∀ {f : Nat} {st : St} {ob : List Obl} {outs : List Out}, execLoop body tm f st = some (ob, outs) → (∀ o ∈ ob, o.ok w0) → ∀ {B : Nat → Prop} {ρ : Env} {σ : Pl} {a : Act} {w : World}, HRep w0 B ρ σ st.h w →
      FRep ρ σ st.h st.fr st.n a → ∀ {Q : Exit → Act → World → Prop}, (∀ o ∈ outs, Post w0 B ρ σ st.h o.st (Q o.ex.to)) → LoopWp P c Q a w
  | 0, st, ob, outs, e, _, _, _, _, _, _, _, _, _, _ => by cases e
  | f + 1, st, ob, outs, e, hob, B, ρ, σ, a, w, hr, hf, Q, hp => by
    simp only [execLoop] at e
    split at e
    · exact loopT_ok hb e hob hr hf hp
    obtain ⟨ob1, l, h1, h2, h3⟩ := thenAll_mem e
    refine LoopWp.round (hb st ob1 l h1 _ rfl (fun o ho => hob o (h2 o ho)) hr hf fun o ho => ?_)
    obtain ⟨ob2, r2, h4, h5, h6⟩ := h3 o ho
    intro ρ' σ' a' w' he hle hr' hf'
    cases hx : o.ex with
    | nor =>
      rw [hx] at h4
      exact execLoop_ok hb h4 (fun o ho => hob o (h5 o ho)) hr' hf' fun o' ho' => (hp o' (h6 o' ho')).from he hle
    | exit id =>
      rw [hx] at h4
      simp only [Option.some.injEq, Prod.mk.injEq] at h4
      obtain ⟨_, rfl⟩ := h4
      have := hp o (h6 o List.mem_cons_self) ρ' σ' a' w' he hle hr' hf'
      rw [hx] at this
      exact this
    | ret =>
      rw [hx] at h4
      simp only [Option.some.injEq, Prod.mk.injEq] at h4
      obtain ⟨_, rfl⟩ := h4
      have := hp o (h6 o List.mem_cons_self) ρ' σ' a' w' he hle hr' hf'
      rw [hx] at this
      exact this

theorem resOne_ok {C : Ctx} (hC : CtxOk P w0.i C) {st : St} {r : ResultVar} {g : List X} {v : SV} (e : resOne C st r = some (g, v)) {B : Nat → Prop} {ρ : Env} {σ : Pl} {a : Act} {w : World}
    (hr : HOk w0 B ρ σ st.h w) (hf : FrOk ρ σ st.fr st.n a) (hg : ∀ q ∈ g, (q.den ρ).asB = true) :
    (match r with | .tmp t => (pure (a.tmps.getD t undef) : Sem Value) | .cell t ty => do loadVar ty (← asAddr (a.tmps.getD t undef))).run P w = .ok (v.val ρ σ) w := by
  cases r with
  | tmp t =>
    simp only [resOne] at e
    rw [Option.map_eq_some_iff] at e
    obtain ⟨v', hv, e⟩ := e
    cases e
    simp only [Sem.run_pure, hf.get t v hv]
  | cell t ty =>
    simp only [resOne] at e
    obtain ⟨p, hp, e⟩ := bind1 e
    obtain ⟨q, hq, e⟩ := bind1 e
    rw [Option.map_eq_some_iff] at e
    obtain ⟨v', hv, e⟩ := e
    cases e
    obtain ⟨g', sv, h'⟩ := q
    obtain ⟨s, hs, _, hrun⟩ := mLoad_ok hC.tt hq hr hg
    simp only at hv
    rw [hv] at hs
    cases hs
    have h1 := hf.get t p hp
    simp only [Sem.run_bind, h1]
    unfold mLoad at hq
    split at hq
    · simp only [SV.val, asAddr, Sem.run_pure, Result.andThen_ok]
      simp only [Instr.loadAt, SV.val, Instr.sureAddr, Sem.run_bind, Sem.run_pure, Result.andThen_ok] at hrun
      exact hrun
    · simp only [SV.val, asAddr, Sem.run_pure, Result.andThen_ok]
      simp only [Instr.loadAt, SV.val, Instr.sureAddr, Sem.run_bind, Sem.run_pure, Result.andThen_ok] at hrun
      exact hrun
    · cases hq
theorem resAll_ok {C : Ctx} (hC : CtxOk P w0.i C) {st : St} : ∀ {l : List ResultVar} {g : List X} {vs : List SV}, resAll C st l = some (g, vs) → ∀ {B : Nat → Prop} {ρ : Env} {σ : Pl} {a : Act} {w : World},
    HOk w0 B ρ σ st.h w → FrOk ρ σ st.fr st.n a → (∀ q ∈ g, (q.den ρ).asB = true) →
    (l.mapM fun (r : ResultVar) => (match r with | .tmp t => (pure (a.tmps.getD t undef) : Sem Value) | .cell t ty => do loadVar ty (← asAddr (a.tmps.getD t undef)))).run P w = .ok (vs.map (SV.val ρ σ)) w
  | [], g, vs, e, B, ρ, σ, a, w, hr, hf, hg => by
    simp only [resAll, Option.some.injEq, Prod.mk.injEq] at e
    obtain ⟨_, rfl⟩ := e
    simp
  | r :: l, g, vs, e, B, ρ, σ, a, w, hr, hf, hg => by
    simp only [resAll] at e
    obtain ⟨q, hq, e⟩ := bind1 e
    rw [Option.map_eq_some_iff] at e
    obtain ⟨s, hs, e⟩ := e
    cases e
    have h1 := resOne_ok hC (g := q.1) (v := q.2) hq hr hf fun x hx => hg x (List.mem_append_left _ hx)
    have h2 := resAll_ok hC (g := s.1) (vs := s.2) hs hr hf fun x hx => hg x (List.mem_append_right _ hx)
    simp only [List.mapM_cons, Sem.run_bind, h1, Result.andThen_ok, h2, Sem.run_pure, List.map_cons]

theorem frOf_get : ∀ (l : List SV) (i : Nat) (acc : List (Nat × SV)) (t : Nat) (v : SV), fget (frOf i l acc) t = some v → (i ≤ t ∧ l[t - i]? = some v) ∨ fget acc t = some v
  | [], i, acc, t, v, h => .inr h
  | a :: l, i, acc, t, v, h => by
    simp only [frOf] at h
    rcases frOf_get l (i + 1) _ t v h with ⟨h1, h2⟩ | h1
    · refine .inl ⟨by omega, ?_⟩
      have : t - i = (t - (i + 1)) + 1 := by omega
      rw [this]; simpa using h2
    · simp only [fget_cons] at h1
      cases hb : Nat.beq i t with
      | true =>
        have := beq_true.1 hb
        subst this
        simp only [hb, cond_true, Option.some.injEq] at h1
        subst h1
        exact .inl ⟨Nat.le_refl _, by simp⟩
      | false => simp only [hb, cond_false] at h1; exact .inr h1

theorem resS_ok {C : Ctx} (hC : CtxOk P w0.i C) {fn : Func} {o : Out} {ob : List Obl} {rs : List (SV × H)} (e : resS C fn o = some (ob, rs)) (hob : ∀ x ∈ ob, x.ok w0)
    {B : Nat → Prop} {ρ : Env} {σ : Pl} {a : Act} {w : World} (hr : HRep w0 B ρ σ o.st.h w) (hf : FRep ρ σ o.st.h o.st.fr o.st.n a) :
    (o.ex = .nor ∨ o.ex = .ret) ∧ ∃ q ∈ rs, ∃ v, (results fn a.tmps).run P w = .ok v w ∧ o.st.h.le q.2 ∧ HRep w0 B ρ σ q.2 w ∧ VRep ρ σ q.2 [q.1] [v] := by
  unfold resS at e
  have hex : o.ex = .nor ∨ o.ex = .ret := by
    cases hx : o.ex with
    | nor => exact .inl rfl
    | ret => exact .inr rfl
    | exit id => rw [hx] at e; cases e
  refine ⟨hex, ?_⟩
  have e' : (resAll C o.st fn.results.toList).map (fun q => (obls o.st.h.fs q.1, [((match q.2 with | [v] => v | l => SV.tuple l), { o.st.h with fs := newFs o.st.h.fs q.1 })])) = some (ob, rs) := by
    rcases hex with hx | hx <;> rw [hx] at e <;> exact e
  rw [Option.map_eq_some_iff] at e'
  obtain ⟨⟨g, vs⟩, hq, e'⟩ := e'
  simp only [Prod.mk.injEq] at e'
  obtain ⟨rfl, rfl⟩ := e'
  have hg := obls_ok (fs := o.st.h.fs) (l := g) hob
  have hval : ∀ ρ₁ σ₁, Ext o.st.h ρ ρ₁ σ σ₁ → (results fn a.tmps).run P w = .ok ((match vs with | [v] => v | l => SV.tuple l).val ρ₁ σ₁) w := by
    intro ρ₁ σ₁ he
    have h0 := hr _ _ he
    have h1 := resAll_ok hC hq h0 (hf _ _ he) (hg ρ₁ h0.ip h0.facts)
    have h2 : fn.results.mapM (fun (r : ResultVar) => (match r with | .tmp t => (pure (a.tmps.getD t undef) : Sem Value) | .cell t ty => do loadVar ty (← asAddr (a.tmps.getD t undef)))) =
        List.toArray <$> fn.results.toList.mapM (fun (r : ResultVar) => (match r with | .tmp t => (pure (a.tmps.getD t undef) : Sem Value) | .cell t ty => do loadVar ty (← asAddr (a.tmps.getD t undef)))) := by
      rw [← List.mapM_toArray, Array.toArray_toList]
    unfold results
    simp only [Sem.run_bind]
    erw [h2]
    simp only [Sem.run_map, h1, Result.andThen_ok, Sem.run_pure]
    congr 1
    cases vs with
    | nil => simp [SV.val, vals_eq]
    | cons v l => cases l with
      | nil => simp
      | cons v' l => simp [SV.val, vals_eq]
  refine ⟨_, List.mem_cons_self, (match vs with | [v] => v | l => SV.tuple l).val ρ σ, hval ρ σ (Ext.refl _ _ _), ⟨fun _ h => h, fun _ h => h⟩, ?_, ?_⟩
  · exact hr.fs _ fun ρ₁ σ₁ he => newFs_ok (hr _ _ he).facts (hg ρ₁ (hr _ _ he).ip (hr _ _ he).facts)
  · intro ρ₁ σ₁ he
    have h1 := hval ρ₁ σ₁ ⟨he.f, he.p, he.v, he.b⟩
    rw [hval ρ σ (Ext.refl _ _ _)] at h1
    simp only [Result.ok.injEq, and_true] at h1
    simp [h1]

theorem callIn_ok {C : Ctx} (hC : CtxOk P I C) {ex : Nat → Code → St → Option (List Obl × List Out)} (hex : ∀ i c st ob outs, ex i c st = some (ob, outs) → CodeOk P I c st ob outs) : CfOk P I C (callIn C ex) := by
  intro i fn0 hfn0 args h ob rs e
  unfold callIn at e
  split at e
  · rename_i k hk
    exact hC.hd i k hk args h ob rs e
  · obtain ⟨fn, hfn, e⟩ := bind1 e
    obtain ⟨c, hc, e⟩ := bind1 e
    cases hb : Nat.ble args.length fn.ntmps with
    | false => simp [hb] at e
    | true =>
      simp only [hb, cond_true] at e
      have hlen := Nat.le_of_ble_eq_true hb
      obtain ⟨ob1, l, h1, h2, h3⟩ := thenAll_mem e
      intro w0 hw hob B ρ σ w vs hr hvs
      subst hw
      have hvl : vs.length = args.length := by
        have := hvs ρ σ (Ext.refl _ _ _)
        rw [← this]; simp
      refine calls_of_wp (hC.ft i fn hfn).1 hc ?_
      refine hex i c _ ob1 l h1 _ rfl (fun o ho => hob o (h2 o ho)) hr ?_ ?_
      · intro ρ₁ σ₁ he
        refine ⟨by simp [hvl]; omega, fun t v ht => ?_, rfl⟩
        rcases frOf_get args 0 [] t v ht with ⟨_, hv⟩ | hv
        · simp only [Nat.sub_zero] at hv
          have hlt := (List.getElem?_eq_some_iff.1 hv).1
          have h4 := hvs ρ₁ σ₁ he
          have h5 : vs[t]? = some (v.val ρ₁ σ₁) := by rw [← h4]; simp [hv]
          simp only [Array.getD_eq_getD_getElem?]
          rw [Array.getElem?_append_left (by simp [hvl]; exact hlt)]
          simp [h5]
        · cases hv
      · intro o ho ρ' σ' a' w' he hle hr' hf'
        obtain ⟨ob2, rs2, h4, h5, h6⟩ := h3 o ho
        obtain ⟨hx, q, hq, v, hrun, hle2, hr2, hv2⟩ := resS_ok hC h4 (fun x hx => hob x (h5 x hx)) hr' hf'
        have hfin : a'.defers = [] ∧ ∃ v, (results fn a'.tmps).run P w' = .ok v w' ∧ (∃ q ∈ rs, ∃ ρ' σ' v_1, (Ending.returned v) = .returned v_1 ∧ Ext h ρ ρ' σ σ' ∧ h.le q.2 ∧ HRep w0 B ρ' σ' q.2 w' ∧ VRep ρ' σ' q.2 [q.1] [v_1]) :=
          ⟨hf'.now.defers, v, hrun, q, h6 q hq, ρ', σ', v, rfl, he, hle.trans hle2, hr2, hv2⟩
        rcases hx with hx | hx <;> rw [hx] <;> exact hfin

theorem fget_keepM (m t : Nat) (v : SV) : ∀ (fr : List (Nat × SV)), fget (keepM m fr) t = some v → fget fr t = some v
  | [], h => h
  | (k, u) :: r, h => by
    have ih := fget_keepM m t v r
    have e : keepM m ((k, u) :: r) = bif Nat.beq (Nat.land (Nat.shiftRight m k) 1) 0 then keepM m r else (k, u) :: keepM m r := rfl
    rw [e] at h
    rw [fget_cons]
    cases hb : Nat.beq (Nat.land (Nat.shiftRight m k) 1) 0 with
    | true =>
      rw [hb] at h
      simp only [cond_true] at h
      cases hk : Nat.beq k t with
      | false => exact ih h
      | true =>
        have := beq_true.1 hk
        subst this
        exact absurd h (by rw [none hb]; simp)
    | false =>
      rw [hb] at h
      simp only [cond_false, fget_cons] at h
      cases hk : Nat.beq k t with
      | false => rw [hk] at h; exact ih h
      | true => rw [hk] at h; exact h
where
  none {m k : Nat} (hb : Nat.beq (Nat.land (Nat.shiftRight m k) 1) 0 = true) : ∀ {fr : List (Nat × SV)}, fget (keepM m fr) k = none
    | [] => rfl
    | (j, u) :: r => by
      have ih := none hb (fr := r)
      have e : keepM m ((j, u) :: r) = bif Nat.beq (Nat.land (Nat.shiftRight m j) 1) 0 then keepM m r else (j, u) :: keepM m r := rfl
      rw [e]
      cases hj : Nat.beq (Nat.land (Nat.shiftRight m j) 1) 0 with
      | true => exact ih
      | false =>
        simp only [cond_false, fget_cons]
        cases hk : Nat.beq j k with
        | false => exact ih
        | true => have := beq_true.1 hk; subst this; rw [hb] at hj; cases hj
theorem FRep.keepM {ρ : Env} {σ : Pl} {h : H} {fr : List (Nat × SV)} {n : Nat} {a : Act} (hf : FRep ρ σ h fr n a) (m : Nat) : FRep ρ σ h (keepM m fr) n a := fun ρ' σ' he =>
  ⟨(hf _ _ he).size, fun t v ht => (hf _ _ he).get t v (fget_keepM m t v fr ht), (hf _ _ he).defers⟩
theorem keepR_mem {m : Option Nat} {r : Option (List Obl × List St)} {ob : List Obl} {sts : List St} (e : keepR m r = some (ob, sts)) : ∃ sts0, r = some (ob, sts0) ∧ ∀ s ∈ sts0, s ∈ sts ∨ ∃ m, { s with fr := keepM m s.fr } ∈ sts := by
  unfold keepR at e
  split at e
  · exact ⟨sts, e, fun s hs => .inl hs⟩
  · rename_i m
    rw [Option.map_eq_some_iff] at e
    obtain ⟨q, hq, e⟩ := e
    cases e
    exact ⟨q.2, hq, fun s hs => .inr ⟨m, List.mem_map_of_mem (f := fun s : St => { s with fr := keepM m s.fr }) hs⟩⟩
theorem Post.kept {B : Nat → Prop} {ρ : Env} {σ : Pl} {h : H} {sts : List St} {K : Act → World → Prop} (hp : ∀ s ∈ sts, Post w0 B ρ σ h s K) {s : St} (hs : s ∈ sts ∨ ∃ m, { s with fr := keepM m s.fr } ∈ sts) : Post w0 B ρ σ h s K := by
  rcases hs with hs | ⟨m, hs⟩
  · exact hp _ hs
  · exact fun ρ' σ' a' w' h1 h2 h3 h4 => hp _ hs ρ' σ' a' w' h1 h2 h3 (h4.keepM m)
theorem joinT_mem {h0 : H} {T : St} : ∀ {l : List Out} {ob : List Obl} {r : List Out}, joinT h0 T l = some (ob, r) → ⟨.nor, T⟩ ∈ r ∧ ∀ o ∈ l, (o.ex = .nor ∧ ∃ g F, genSt h0 T o.st g = some F ∧ ∀ b ∈ fob o.st.h.fs F, b ∈ ob) ∨ o ∈ r
  | [], ob, r, e => by simp only [joinT, Option.some.injEq, Prod.mk.injEq] at e; obtain ⟨_, rfl⟩ := e; exact ⟨List.mem_cons_self, by simp⟩
  | o :: l, ob, r, e => by
    simp only [joinT] at e
    have rest : ∀ {x : Option (List Obl × List Out)} {q : List Obl × List Out}, joinT h0 T l = some q → (∀ b ∈ q.1, b ∈ ob) → (∀ p ∈ q.2, p ∈ r) → ⟨.nor, T⟩ ∈ r ∧ ∀ o ∈ l, (o.ex = .nor ∧ ∃ g F, genSt h0 T o.st g = some F ∧ ∀ b ∈ fob o.st.h.fs F, b ∈ ob) ∨ o ∈ r := by
      intro x q hq h1 h2
      obtain ⟨k1, k2⟩ := joinT_mem (ob := q.1) (r := q.2) hq
      refine ⟨h2 _ k1, fun o ho => ?_⟩
      rcases k2 o ho with ⟨a, g, F, b, c⟩ | a
      · exact .inl ⟨a, g, F, b, fun x hx => h1 _ (c x hx)⟩
      · exact .inr (h2 _ a)
    cases hx : o.ex with
    | nor =>
      rw [hx] at e
      simp only at e
      obtain ⟨F, hF, e⟩ := bind1 e
      rw [Option.map_eq_some_iff] at e
      obtain ⟨q, hq, e⟩ := e
      cases e
      obtain ⟨k1, k2⟩ := rest (x := none) hq (fun b hb => List.mem_append_right _ hb) (fun p hp => hp)
      refine ⟨k1, fun p hp => ?_⟩
      simp only [List.mem_cons] at hp
      rcases hp with rfl | hp
      · exact .inl ⟨hx, _, F, hF, fun b hb => List.mem_append_left _ hb⟩
      · exact k2 p hp
    | exit id =>
      rw [hx] at e
      simp only at e
      rw [Option.map_eq_some_iff] at e
      obtain ⟨q, hq, e⟩ := e
      cases e
      obtain ⟨k1, k2⟩ := rest (x := none) hq (fun b hb => hb) (fun p hp => List.mem_cons_of_mem _ hp)
      refine ⟨k1, fun p hp => ?_⟩
      simp only [List.mem_cons] at hp
      rcases hp with rfl | hp
      · exact .inr List.mem_cons_self
      · exact k2 p hp
    | ret =>
      rw [hx] at e
      simp only at e
      rw [Option.map_eq_some_iff] at e
      obtain ⟨q, hq, e⟩ := e
      cases e
      obtain ⟨k1, k2⟩ := rest (x := none) hq (fun b hb => hb) (fun p hp => List.mem_cons_of_mem _ hp)
      refine ⟨k1, fun p hp => ?_⟩
      simp only [List.mem_cons] at hp
      rcases hp with rfl | hp
      · exact .inr List.mem_cons_self
      · exact k2 p hp
/-- behind a join each outcome serves. -/
theorem joinR_ok {h0 : H} {T : Option St} {r : Option (List Obl × List Out)} {ob : List Obl} {outs : List Out} (e : joinR h0 T r = some (ob, outs)) (hob : ∀ o ∈ ob, o.ok w0) {B : Nat → Prop} {ρ : Env} {σ : Pl} {Q : Exit → Act → World → Prop}
    (hp : ∀ o ∈ outs, Post w0 B ρ σ h0 o.st (Q o.ex.to)) : ∃ ob0 outs0, r = some (ob0, outs0) ∧ (∀ o ∈ ob0, o.ok w0) ∧ ∀ o ∈ outs0, Post w0 B ρ σ h0 o.st (Q o.ex.to) := by
  unfold joinR at e
  split at e
  · exact ⟨ob, outs, e, hob, hp⟩
  · rename_i T
    obtain ⟨q, hq, e⟩ := bind1 e
    rw [Option.map_eq_some_iff] at e
    obtain ⟨s, hs, e⟩ := e
    cases e
    obtain ⟨k1, k2⟩ := joinT_mem (ob := s.1) (r := s.2) hs
    refine ⟨q.1, q.2, hq, fun o ho => hob o (List.mem_append_left _ ho), fun o ho => ?_⟩
    rcases k2 o ho with ⟨hx, g, F, h1, h2⟩ | h1
    · intro ρ' σ' a' w' he hle hr' hf'
      have hfs := fob_ok (w0 := w0) (fs := o.st.h.fs) (fun b hb => hob b (List.mem_append_right _ (h2 b hb))) ρ' hr'.now.ip hr'.now.facts
      obtain ⟨m1, m2, m3, m4⟩ := genSt_ok h1 hr'.now hf'.now hfs
      have := hp _ k1 _ _ a' w' (he.trans m1 (fun _ h => h) (fun _ h => h)) m2 m3 m4
      rw [hx]; exact this
    · exact hp o h1

theorem execCode_ok {C : Ctx} (hC : CtxOk P I C) : ∀ (f i : Nat) (c : Code) (st : St) (ob : List Obl) (outs : List Out), execCode C f i c st = some (ob, outs) → CodeOk P I c st ob outs
  | 0, i, c, st, ob, outs, e => by cases e
  | f + 1, i, c, st, ob, outs, e => by
    have ih := execCode_ok hC f
    have hcf := callIn_ok hC ih
    replace ih := ih i
    intro w0 hw hob B ρ σ a w hr hf Q hp
    subst hw
    cases c with
    | skip =>
      simp only [execCode, Option.some.injEq, Prod.mk.injEq] at e
      obtain ⟨_, rfl⟩ := e
      exact wp_skip (hp _ List.mem_cons_self ρ σ a w (Ext.refl _ _ _) (H.le.refl _) hr hf)
    | label l =>
      simp only [execCode, Option.some.injEq, Prod.mk.injEq] at e
      obtain ⟨_, rfl⟩ := e
      exact wp_label (hp _ List.mem_cons_self ρ σ a w (Ext.refl _ _ _) (H.le.refl _) hr hf)
    | exit id =>
      simp only [execCode, Option.some.injEq, Prod.mk.injEq] at e
      obtain ⟨_, rfl⟩ := e
      exact wp_exit (hp _ List.mem_cons_self ρ σ a w (Ext.refl _ _ _) (H.le.refl _) hr hf)
    | ret =>
      simp only [execCode, Option.some.injEq, Prod.mk.injEq] at e
      obtain ⟨_, rfl⟩ := e
      exact wp_ret (hp _ List.mem_cons_self ρ σ a w (Ext.refl _ _ _) (H.le.refl _) hr hf)
    | region id ops draw =>
      cases draw with
      | false =>
        simp only [execCode] at e
        obtain ⟨ob0, outs0, e, hob, hp⟩ := joinR_ok e hob hp
        obtain ⟨sts, hs, hmem⟩ := nors_ok e
        obtain ⟨sts0, hs, hk⟩ := keepR_mem hs
        exact wp_region_list (execOps_ok hC hcf hs hob hr hf fun s hs => Post.kept (fun s hs => hp _ (hmem s hs)) (hk s hs))
      | true =>
        simp only [execCode] at e
        obtain ⟨ob0, outs0, e, hob, hp⟩ := joinR_ok e hob hp
        obtain ⟨sts, hs, hmem⟩ := nors_ok e
        obtain ⟨sts0, hs, hk⟩ := keepR_mem hs
        exact splitD_ok (M := fun Q a w => (Code.region id ops true).wp P Q a w) (fun st ob sts e hob B ρ σ a w hr hf Q hp => execDraw_ok hC hcf e hob hr hf hp id) hs hob hr hf (fun s hs => Post.kept (fun s hs => hp _ (hmem s hs)) (hk s hs))
    | seq x y =>
      simp only [execCode] at e
      obtain ⟨ob1, l, h1, h2, h3⟩ := thenAll_mem e
      refine wp_seq (ih x st ob1 l h1 _ rfl (fun o ho => hob o (h2 o ho)) hr hf fun o ho => ?_)
      obtain ⟨ob2, r2, h4, h5, h6⟩ := h3 o ho
      intro ρ' σ' a' w' he hle hr' hf'
      cases hx : o.ex with
      | nor =>
        rw [hx] at h4
        exact ih y o.st ob2 r2 h4 _ rfl (fun o ho => hob o (h5 o ho)) hr' hf' fun o' ho' => (hp o' (h6 o' ho')).from he hle
      | exit id =>
        rw [hx] at h4
        simp only [Option.some.injEq, Prod.mk.injEq] at h4
        obtain ⟨_, rfl⟩ := h4
        have := hp o (h6 o List.mem_cons_self) ρ' σ' a' w' he hle hr' hf'
        rw [hx] at this
        exact this
      | ret =>
        rw [hx] at h4
        simp only [Option.some.injEq, Prod.mk.injEq] at h4
        obtain ⟨_, rfl⟩ := h4
        have := hp o (h6 o List.mem_cons_self) ρ' σ' a' w' he hle hr' hf'
        rw [hx] at this
        exact this
    | cond x y z =>
      simp only [execCode] at e
      obtain ⟨v, hv, e⟩ := bind1 e
      have hval : ∀ ρ₁ σ₁, Ext st.h ρ ρ₁ σ σ₁ → a.eval x = v.val ρ₁ σ₁ := fun ρ₁ σ₁ he => ev_ok (hf _ _ he) hv
      split at e
      · exact wp_cond_true (hval ρ σ (Ext.refl _ _ _)) (ih y st ob outs e _ rfl hob hr hf hp)
      · exact wp_cond_false (hval ρ σ (Ext.refl _ _ _)) (ih z st ob outs e _ rfl hob hr hf hp)
      · rename_i q _ _
        have hq := hval ρ σ (Ext.refl _ _ _)
        have hsame : ∀ ρ₁ σ₁, Ext st.h ρ ρ₁ σ σ₁ → (q.den ρ₁).asB = (q.den ρ).asB := fun ρ₁ σ₁ he => by
          have h1 := hval ρ₁ σ₁ he
          rw [hq] at h1
          simpa [SV.val] using h1.symm
        cases hk : known st.h.fs q with
        | true =>
          simp only [hk, cond_true] at e
          have hb := known_ok hk ρ hr.now.facts
          simp only [SV.val, hb] at hq
          exact wp_cond_true hq (ih y st ob outs e _ rfl hob hr hf hp)
        | false =>
          simp only [hk, cond_false] at e
          cases hk2 : known st.h.fs (mNot q) with
          | true =>
            simp only [hk2, cond_true] at e
            have hb := known_ok hk2 ρ hr.now.facts
            rw [mNot_den] at hb
            have hb' : (q.den ρ).asB = false := by simpa using hb
            simp only [SV.val, hb'] at hq
            exact wp_cond_false hq (ih z st ob outs e _ rfl hob hr hf hp)
          | false =>
            simp only [hk2, cond_false] at e
            obtain ⟨ob0, outs0, e, hob, hp⟩ := joinR_ok e hob hp
            obtain ⟨o1, t1, o2, t2, ea, eb, ho1, ho2, ht1, ht2⟩ := both_mem e
            refine wp_cond_split hq (fun hb => ?_) (fun hb => ?_)
            · refine ih y (assume q true st) o1 t1 ea _ rfl (fun o ho => hob o (ho1 o ho)) (assume_rep hr fun ρ₁ σ₁ he => by rw [hsame _ _ he, hb]) (hf.ext (Ext.refl _ _ _) ⟨fun _ h => h, fun _ h => h⟩) ?_
              exact fun o ho => (hp o (ht1 o ho)).from (h' := (assume q true st).h) (Ext.refl _ _ _) ⟨fun _ h => h, fun _ h => h⟩
            · refine ih z (assume q false st) o2 t2 eb _ rfl (fun o ho => hob o (ho2 o ho)) (assume_rep hr fun ρ₁ σ₁ he => by rw [hsame _ _ he, hb]) (hf.ext (Ext.refl _ _ _) ⟨fun _ h => h, fun _ h => h⟩) ?_
              exact fun o ho => (hp o (ht2 o ho)).from (h' := (assume q false st).h) (Ext.refl _ _ _) ⟨fun _ h => h, fun _ h => h⟩
      · cases e
    | block id b =>
      simp only [execCode] at e
      obtain ⟨ob0, outs0, e, hob, hp⟩ := joinR_ok e hob hp
      rw [Option.map_eq_some_iff] at e
      obtain ⟨q, hq, e⟩ := e
      cases e
      refine wp_block (ih b st q.1 q.2 hq _ rfl hob hr hf fun o ho => ?_)
      have hp1 := hp (inBlk id o) (List.mem_map_of_mem ho)
      intro ρ' σ' a' w' he hle hr' hf'
      unfold inBlk at hp1
      cases hx : o.ex with
      | nor => rw [hx] at hp1; simp only [hx, Ex.to] at hp1; simp only [Exit.inBlock, Ex.to]; exact hp1 ρ' σ' a' w' he hle hr' hf'
      | ret => rw [hx] at hp1; simp only [hx, Ex.to] at hp1; simp only [Exit.inBlock, Ex.to]; exact hp1 ρ' σ' a' w' he hle hr' hf'
      | exit j =>
        rw [hx] at hp1
        simp only [Exit.inBlock, Ex.to]
        cases hb : Nat.beq j id with
        | true =>
          simp only [hb, cond_true, Ex.to] at hp1
          rw [if_pos (beq_true.1 hb)]
          exact hp1 ρ' σ' a' w' he hle hr' hf'
        | false =>
          simp only [hb, cond_false, hx, Ex.to] at hp1
          rw [if_neg (beq_false.1 hb)]
          exact hp1 ρ' σ' a' w' he hle hr' hf'
    | loop b =>
      simp only [execCode] at e
      exact wp_of_LoopWp (execLoop_ok (fun st ob outs h => ih b st ob outs h) e hob hr hf hp)
    | scope b =>
      simp only [execCode] at e
      refine wp_scope_straight (ih b st ob outs e _ rfl hob hr hf fun o ho => ?_)
      have hp1 := hp o ho
      intro ρ' σ' a' w' he hle hr' hf'
      have := hp1 ρ' σ' a' w' he hle hr' hf'
      cases hx : o.ex <;> rw [hx] at this <;> exact this
    | rangeFunc _ _ _ _ => simp only [execCode] at e; cases e
    | goto _ => simp only [execCode] at e; cases e
    | refuse _ => simp only [execCode] at e; cases e
/-- THE LAW: a call that the executor runs comes to what it says. -/
theorem execCall_ok {C : Ctx} (hC : CtxOk P I C) {f i : Nat} {fn : Func} (hfn : C.ft i = some fn) {args : List SV} {h : H} {ob : List Obl} {rs : List (SV × H)} (e : execCall C f i args h = some (ob, rs)) :
    CallOk P I i args h ob rs := callIn_ok hC (execCode_ok hC f) i fn hfn args h ob rs e
end Go.SE
end
/-! The symbolic executor: contracts: their law. -/
noncomputable section
set_option linter.unusedSimpArgs false
set_option linter.unusedVariables false
namespace Go.SE
open Go.RowKit (Below)
variable {P : Program} {I : Interp}

def CtrOk (P : Program) (I : Interp) (i : Nat) (c : Ctr) : Prop :=
  ∀ (w0 : W0), w0.i = I → ∀ (B : Nat → Prop) (ρ : Env) (σ : Pl) (w : World) (vs : List Value), HRep w0 B ρ σ c.h w → VRep ρ σ c.h c.args vs →
    Calls P i vs.toArray w fun e w' => ∃ q ∈ c.outs, ∃ ρ' σ' v, e = .returned v ∧ Ext c.h ρ ρ' σ σ' ∧ c.h.le q.2 ∧ HRep w0 B ρ' σ' q.2 w' ∧ VRep ρ' σ' q.2 [q.1] [v]
theorem CtrOk.of {i : Nat} {c : Ctr} {ob : List Obl} (h : CallOk P I i c.args c.h ob c.outs) (hob : ∀ w, ∀ o ∈ ob, o.ok ⟨w, I⟩) : CtrOk P I i c := by
  intro w0 hw B ρ σ w vs hr hv
  subst hw
  exact h w0 rfl (hob w0.w) B ρ σ w vs hr hv

theorem merge_ok {i : Nat} {args : List SV} {h : H} {ob ob' : List Obl} {rs ts outs : List (SV × H)} (hc : CallOk P I i args h ob rs) (hm : mergeK h rs ts = some ob') (hts : ∀ t ∈ ts, t ∈ outs) :
    CallOk P I i args h (ob ++ ob') outs := by
  intro w0 hw hob B ρ σ w vs hr hv
  refine (hc w0 hw (fun o ho => hob o (List.mem_append_left _ ho)) B ρ σ w vs hr hv).mono ?_
  rintro e w' ⟨q, hq, ρ', σ', v, rfl, hext, hle, hrep, hval⟩
  obtain ⟨t, ht, g, F, L, h1, h2, h3, h4⟩ := mergeK_mem hm q hq
  have hfs := fob_ok (w0 := w0) (fs := q.2.fs) (fun o ho => hob o (List.mem_append_right _ (h4 o ho))) ρ' hrep.now.ip hrep.now.facts
  obtain ⟨k1, k2, k3, k4⟩ := gen_core h1 hrep.now fun c hc => hfs c (List.mem_append_left _ hc)
  refine ⟨t, hts t ht, _, _, v, rfl, hext.trans k1 (fun _ h => h) (fun _ h => h), k2, k3, fun ρ2 σ2 he => ?_⟩
  have e1 := k4 t.1 q.1 L h2 h3 (fun c hc => hfs c (List.mem_append_right _ hc)) ρ2 σ2 he
  have e2 := hval _ _ (Ext.refl _ _ _)
  simp only [List.map_cons, List.map_nil, List.cons.injEq, and_true] at e2 ⊢
  rw [e1, e2]

/-- what the callee may not touch: all that there is, but what it is given. -/
def keepB (h : H) (ρ : Env) (σ : Pl) (n : Nat) (gv : List Nat) (i : Nat) : Prop := i < n ∧ ∀ b ∈ gv, ∀ l j, fget h.hp b = some l → l.has ρ j → (σ b j).1 ≠ i
theorem BlkOk.own_to {B B' : Nat → Prop} {ρ : Env} {σ : Pl} {w : World} {b : Nat} {k : Blk} (h : BlkOk B ρ σ w b k) (ho : k.own = true) (hB : ∀ i, k.has ρ i → ¬ B' (σ b i).1) : BlkOk B' ρ σ w b k := by
  have h0 := hB 0 (Blk.has_zero ho)
  cases k with
  | cells l e tot => exact ⟨h0, h.2⟩
  | rows own ks x e tot =>
    simp only [Blk.own] at ho
    subst ho
    exact ⟨h0, h.2⟩
  | map k m st => exact ⟨h0, h.2⟩
  | bor => cases ho
  | nest ks x cx e tot e2 =>
    obtain ⟨h1, h2, c, hc, h3, h4, h5⟩ := h
    exact ⟨h0, h2, c, hc, h3, h4, fun r hr => ⟨hB (r + 1) hr, (h5 r hr).2⟩⟩
theorem use_ok {i : Nat} {c : Ctr} (hc : CtrOk P I i c) {args : List SV} {h : H} {ob : List Obl} {rs : List (SV × H)} (e : useK c args h = some (ob, rs)) : CallOk P I i args h ob rs := by
  unfold useK at e
  simp only at e
  generalize inferK c args h = g at e
  obtain ⟨L, hL, e⟩ := bind1 e
  replace e := (by
    revert e
    cases L.any (fun q => clash (q.1.sub g.f) q.2) with
    | true => intro e; cases e
    | false => exact id : ((viewsK g c.h.nb (gvK g.fb c.h.hp) h.hp c.h.hp).bind fun V => bif prVs c.h.nv L && (prVs c.h.nv V && (gvVs h (gvK g.fb c.h.hp) && g.xs.all (X.vs h.alVb) && (g.bs.all h.alBb && (Nat.beq g.b0 0 && (Nat.beq g.v0 0 && Nat.ble c.h.nb g.bs.length)) && (c.h.still && c.h.fs.all (Fact.vs (blt' c.h.nv)))))) then
      (outsK c g h c.outs).map fun r => (fob h.fs (prF g.f L ++ (prF g.f V ++ c.h.fs.map (Fact.sub g.f))), r)
    else none) = some (ob, rs))
  obtain ⟨V, hV, e⟩ := bind1 e
  obtain ⟨hcond, e⟩ := bndo e
  rw [Option.map_eq_some_iff] at e
  obtain ⟨r, hr', e⟩ := e
  cases e
  simp only [Bool.and_eq_true, beq_true, Nat.ble_eq] at hcond
  obtain ⟨vL, vV, ⟨vg, vx⟩, ⟨vb, gb, gv0, gl⟩, cs, cf⟩ := hcond
  intro w0 hw hob B ρ σ w vs hr hv
  subst hw
  have hfs := fob_ok (w0 := w0) (fs := h.fs) hob ρ hr.now.ip hr.now.facts
  have pL : ∀ q ∈ L, q.1.den (subE g.f ρ) = q.2.den ρ := prF_ok fun x hx => hfs x (List.mem_append_left _ hx)
  have pV : ∀ q ∈ V, q.1.den (subE g.f ρ) = q.2.den ρ := prF_ok fun x hx => hfs x (List.mem_append_right _ (List.mem_append_left _ hx))
  have pF : ∀ x ∈ c.h.fs, x.ok (subE g.f ρ) := fun x hx => (Fact.ok_sub _ _ _).1 (hfs _ (List.mem_append_right _ (List.mem_append_right _ (List.mem_map_of_mem hx))))
  have vs2 : ∀ (L : Prs), prVs c.h.nv L = true → (∀ q ∈ L, q.1.den (subE g.f ρ) = q.2.den ρ) → ∀ ρ2 σ2, Ext c.h (subE g.f ρ) ρ2 (fun b => σ (g.fb b)) σ2 → ∀ q ∈ L, q.1.den ρ2 = q.2.den ρ := by
    intro L hL hd ρ2 σ2 he q hq
    simp only [prVs, List.all_eq_true] at hL
    rw [← hd q hq]
    exact X.den_vs he.f (fun i hi => he.v i (Or.inl (by simpa [blt', Nat.blt_eq] using hi))) (hL q hq)
  have hnow := hr.now
  have gbs : ∀ b, b < c.h.nb → h.alB (g.fb b) := by
    intro b hb
    have hb0 : Nat.blt b g.b0 = false := by rw [gb]; cases hb : Nat.blt b 0 with | false => rfl | true => simp [Nat.blt] at hb
    simp only [Gm.fb, hb0, cond_false, gb, Nat.sub_zero]
    rw [List.getD_eq_getElem?_getD, List.getElem?_eq_getElem (Nat.lt_of_lt_of_le hb gl)]
    simp only [List.all_eq_true] at vb
    exact H.alBb_iff.1 (vb _ (List.getElem_mem _))
  have gvlt : ∀ b ∈ gvK id c.h.hp, b < c.h.nb := viewsK_lt hV
  generalize hgv : gvK g.fb c.h.hp = gv at hV vg
  have gvin : ∀ b ∈ gvK id c.h.hp, g.fb b ∈ gv := fun b hb => hgv ▸ gvK_id hb
  have gval : ∀ d ∈ gv, h.alB d := fun d hd => by
    subst hgv
    obtain ⟨b, h1, rfl⟩ := gvK_of hd
    exact gbs b (gvlt b h1)
  have gvm : ∀ b k, fget c.h.hp b = some k → k.own = true → g.fb b ∈ gv := fun b k hb ho => hgv ▸ gvK_mem hb ho
  have hBig : ∀ i, B i → keepB h ρ σ w.heap.size gv i := fun i hi => ⟨hnow.size i hi, fun b _ l j hl hj e => by
    subst e
    exact ((hnow.blk b l hl).has_ge hj).1 hi⟩
  -- the callee's view of the world
  have hrep1 : HRep ⟨w, w0.i⟩ (keepB h ρ σ w.heap.size gv) (subE g.f ρ) (fun b => σ (g.fb b)) c.h w := by
    intro ρ2 σ2 he
    refine ⟨⟨he.f.trans hnow.ip.1, he.p.trans hnow.ip.2⟩, fun g0 hg0 => ?_, Bel.refl _ _, fun i hi => hi.1, fun b k hk => ?_, fun b d k l i j hb hd ok ol e => ?_, fun d p s ks x hd => ?_, fun x hx => ?_⟩
    · obtain ⟨h1, h2⟩ := hnow.lay g0 hg0
      refine ⟨hBig _ h1, fun i hi => ?_⟩
      rw [← h2 i hi]
      exact hnow.below.cell (p := ⟨g0, i, none⟩) h1
    · obtain ⟨b1, s, b2, b3⟩ := viewsK_ok hV b k hk
      have e1 : σ2 b = σ (g.fb b) := he.b b (Or.inl b1)
      rcases b3 with ⟨ho, p, b3, b4⟩ | ⟨ks, x, e, t, y, rfl, b3, b4, b5, b6⟩
      · have hp2 : ∀ q ∈ p, q.1.den ρ2 = q.2.den ρ := fun q hq => vs2 V vV pV ρ2 σ2 he q (b4 q hq)
        have := blP_ok (fun b hb => he.b b (Or.inl hb)) b1 b3 hp2 (hnow.blk _ _ b2)
        refine this.own_to ho fun i hi => ?_
        have h5 := blP_has b3 hp2 hi
        rw [e1]
        exact fun hk2 => hk2.2 _ (gvm b k hk ho) s i b2 h5 rfl
      · have q2 := asRows_ok b5 (hnow.blk _ _ b2)
        have e2 := vs2 V vV pV ρ2 σ2 he _ b6
        simp only at e2
        refine ⟨⟨by rw [e1]; exact hnow.blk_lt b2, fun d hd l j hl hj e => ?_⟩, by rw [e2]; simp only [adr, e1] at q2 ⊢; exact q2⟩
        rw [e1] at e
        cases ho : s.own with
        | true =>
          have := hnow.apart d (g.fb b) l s j 0 hl b2 hj (Blk.has_zero ho) e
          exact b3 (this ▸ hd)
        | false =>
          rcases hnow.view_at b2 ho with h1 | ⟨p, s', ks', x', m, rfl, h1, _, h2, h3⟩
          · exact ((hnow.blk d l hl).has_ge hj).1 (e ▸ h1)
          · rw [h3] at e
            have := hnow.apart d p l m j _ hl h1 hj h2 e
            exact b4 p s' ks' x' rfl (this ▸ hd)
    · obtain ⟨b1, s, b2, b3⟩ := viewsK_ok hV b k hb
      obtain ⟨d1, s', d2, d3⟩ := viewsK_ok hV d l hd
      have hok := Blk.has_own ok
      have hol := Blk.has_own ol
      rcases b3 with ⟨_, p, b3, b4⟩ | ⟨_, _, _, _, _, rfl, _⟩
      · rcases d3 with ⟨_, p', d3, d4⟩ | ⟨_, _, _, _, _, rfl, _⟩
        · rw [he.b b (Or.inl b1), he.b d (Or.inl d1)] at e
          have h5 := blP_has b3 (fun q hq => vs2 V vV pV ρ2 σ2 he q (b4 q hq)) ok
          have h6 := blP_has d3 (fun q hq => vs2 V vV pV ρ2 σ2 he q (d4 q hq)) ol
          exact viewsK_inj hV b d k l hb hd hok hol (hnow.apart _ _ s s' i j b2 d2 h5 h6 e)
        · simp [Blk.own] at hol
      · simp [Blk.own] at hok
    · obtain ⟨_, _, _, b3⟩ := viewsK_ok hV d _ hd
      rcases b3 with ⟨ho, _⟩ | ⟨_, _, _, _, _, e, _⟩
      · cases ho
      · cases e
    · simp only [List.all_eq_true] at cf
      exact (Fact.ok_vs he.f.symm he.p.symm (fun i hi => (he.v i (Or.inl (by simpa [blt', Nat.blt_eq] using hi))).symm) (cf x hx)).1 (pF x hx)
  have hv1 : VRep (subE g.f ρ) (fun b => σ (g.fb b)) c.h c.args vs := by
    intro ρ2 σ2 he
    have e1 := svP_all (fun b hb => he.b b (Or.inl hb)) _ _ _ hL (vs2 L vL pL ρ2 σ2 he)
    rw [vals_eq, vals_eq] at e1
    rw [e1]
    exact hv _ _ (Ext.refl _ _ _)
  refine (hc ⟨w, w0.i⟩ rfl (keepB h ρ σ w.heap.size gv) _ _ w vs hrep1 hv1).mono ?_
  rintro e w' ⟨q, hq, ρ', σ', v, rfl, hext, hle, hrep, hval⟩
  obtain ⟨p, hp, ho⟩ := outsK_mem hr' q hq
  have qr := hrep.now
  have vq := hval _ _ (Ext.refl _ _ _)
  simp only [List.map_cons, List.map_nil, List.cons.injEq, and_true] at vq
  unfold outK at ho
  simp only at ho
  obtain ⟨Lv, h1, ho⟩ := bind1 ho
  obtain ⟨news, h2, ho⟩ := bind1 ho
  obtain ⟨h3, ho⟩ := bndo ho
  rw [hgv] at ho
  simp only [Bool.and_eq_true, Nat.ble_eq, List.all_eq_true] at h3
  obtain ⟨pv, qs, le1, le2, qf⟩ := h3
  have gx : ∀ i, i < c.h.nv → ∀ ρ3, ρ3.f = ρ.f → (∀ i, h.alV i → ρ3.v i = ρ.v i) → (g.f i).den ρ3 = (g.f i).den ρ := by
    intro i _ ρ3 hf hv3
    refine X.den_vs (p := h.alVb) hf (fun j hj => hv3 j (H.alVb_iff.1 hj)) ?_
    have hg0 : Nat.blt i g.v0 = false := by rw [gv0]; cases hb : Nat.blt i 0 with | false => rfl | true => simp [Nat.blt] at hb
    simp only [Gm.f, hg0, cond_false]
    rw [List.getD_eq_getElem?_getD]
    cases hx : g.xs[i - g.v0]? with
    | none => rfl
    | some x =>
      simp only [List.all_eq_true] at vx
      exact vx x (List.mem_of_getElem? hx)
  -- a block that was given was the caller's own, or is new
  have notB : ∀ i, ¬ keepB h ρ σ w.heap.size gv i → ¬ B i := fun i hi hB => hi (hBig i hB)
  -- what the callee's variables and blocks are for the caller
  have main : ∀ (ρ'' : Env) (σ'' : Pl) (h' : H), Ext h ρ ρ'' σ σ'' → h.le h' → h'.hp = fsets news (dropK gv h.hp) → h'.fs = newF h.fs (q.2.fs.map (Fact.sub (c.rx g h))) ++ h.fs →
      (∀ ρ3 σ3, Ext h' ρ'' ρ3 σ'' σ3 → (∀ i, i < q.2.nv → ρ'.v i = (c.rx g h i).den ρ3) ∧ (∀ b, b < q.2.nb → σ' b = σ3 (c.rb g h b))) →
      (∀ b, c.h.nb ≤ b → b < q.2.nb → ¬ h.alB (c.rb g h b)) →
      HRep w0 B ρ'' σ'' h' w' ∧ VRep ρ'' σ'' h' [q.1.ren (c.rx g h) (c.rb g h)] [v] := by
    intro ρ'' σ'' h' hx hl hhp hfs' hren hfresh
    have hf3 : ∀ ρ3 σ3, Ext h' ρ'' ρ3 σ'' σ3 → ρ'.f = ρ3.f := fun ρ3 σ3 he => by rw [hext.f, he.f, hx.f]; rfl
    have hp3 : ∀ ρ3 σ3, Ext h' ρ'' ρ3 σ'' σ3 → ρ'.p = ρ3.p := fun ρ3 σ3 he => by rw [hext.p, he.p, hx.p]; rfl
    refine ⟨fun ρ3 σ3 he => ?_, fun ρ3 σ3 he => ?_⟩
    · have he3 : Ext h ρ ρ3 σ σ3 := hx.trans he hl.v hl.b
      have r3 := hr ρ3 σ3 he3
      obtain ⟨hxv, hxb⟩ := hren ρ3 σ3 he
      have hsame : ∀ i, keepB h ρ σ w.heap.size gv i → w'.heap[i]? = w.heap[i]? := fun i hi => qr.below.block i hi
      have new : ∀ b k, fget news b = some k → ∃ b0 k0, fget q.2.hp b0 = some k0 ∧ b0 < q.2.nb ∧ (c.h.nb ≤ b0 ∨ b0 ∈ gvK id c.h.hp) ∧ b = c.rb g h b0 ∧ (∀ i, k.has ρ3 i → k0.has ρ' i) ∧ BlkOk B ρ3 σ3 w' b k ∧ (∀ i, k.has ρ3 i → ¬ keepB h ρ σ w.heap.size gv (σ3 b i).1) ∧ (∀ p s ks x, k ≠ .bor p s ks x) := by
        intro b k hn
        obtain ⟨b0, k0, m1, mo, m3, mv, rfl, mk, L', m4, m5⟩ := newsK_ok h2 b k hn
        obtain ⟨n1, n2⟩ := blQ_ok (B' := B) hxb m3 m4 (prOk_ok m5 (hf3 ρ3 σ3 he) hxv) (fun i hi => notB _ ((qr.blk b0 k0 m1).has_ge hi).1) (qr.blk b0 k0 m1)
        refine ⟨b0, k0, m1, m3, mv, rfl, n2, n1, fun i hi => ?_, fun p s ks x e => ?_⟩
        · rw [← hxb b0 m3]; exact ((qr.blk b0 k0 m1).has_ge (n2 i hi)).1
        · subst mk
          cases k0 <;> simp_all [Blk.ren, Blk.own]
      -- what the caller kept
      have kept : ∀ b k, fget (dropK gv h.hp) b = some k → fget h.hp b = some k ∧ b ∉ gv ∧ (∀ p s ks x, k = .bor p s ks x → p ∉ gv) ∧ (∀ i, k.at B ρ3 σ3 b i → keepB h ρ σ w.heap.size gv i) := by
        intro b k hb
        obtain ⟨d1, d2, d3⟩ := dropK_get hb
        refine ⟨d2, d1, d3, fun i hi => ?_⟩
        have far : ∀ d ∈ gv, ∀ l j, fget h.hp d = some l → l.has ρ j → (σ d j).1 ≠ i := by
          intro d hd l j hl hj e
          have hj3 := (gvVs_ok vg d hd l hl ρ ρ3 σ σ3 he3 j).1 hj
          rw [← he3.b d (gval d hd)] at e
          subst e
          rcases hi with ⟨ho, hi⟩ | ⟨j', hj', hi⟩
          · rcases r3.view_at d2 ho with h5 | ⟨p, s', ks', x', m, rfl, h5, _, h6, h7⟩
            · exact ((r3.blk d l hl).has_ge hj3).1 (hi ▸ h5)
            · rw [h7] at hi
              have := r3.apart d p l m j _ hl h5 hj3 h6 hi
              exact d3 p s' ks' x' rfl (this ▸ hd)
          · have := r3.apart d b l k j j' hl d2 hj3 hj' hi
            exact d1 (this ▸ hd)
        rcases hi with ⟨ho, rfl⟩ | ⟨j, hj, rfl⟩
        · exact ⟨r3.view_lt d2 ho, far⟩
        · exact ⟨((r3.blk b k d2).has_ge hj).2, far⟩
      have cases' : ∀ b k, fget h'.hp b = some k → fget news b = some k ∨ (fget news b = none ∧ fget (dropK gv h.hp) b = some k) := by
        intro b k hb
        rw [hhp, fget_fsets] at hb
        cases hn : fget news b with
        | some k' => rw [hn] at hb; exact .inl hb
        | none => rw [hn] at hb; exact .inr ⟨rfl, hb⟩
      refine ⟨r3.ip, r3.lay, r3.below.trans ⟨qr.below.os, qr.below.tape, qr.below.output, qr.below.size, fun i hi => hsame i (hBig i hi)⟩, fun i hi => Nat.lt_of_lt_of_le (r3.size i hi) qr.below.size, ?_, ?_, ?_, ?_⟩
      · intro b k hk
        rcases cases' b k hk with hk | ⟨_, hk⟩
        · obtain ⟨_, _, _, _, _, _, _, n1, _⟩ := new b k hk
          exact n1
        · obtain ⟨d1, _, _, d4⟩ := kept b k hk
          exact (r3.blk b k d1).congr fun i hi => hsame i (d4 i hi)
      · intro b d k l i j hb hd ok ol e
        rcases cases' b k hb with hb | ⟨_, hb⟩
        · obtain ⟨b0, k0, n1, n2, _, rfl, n3, n4, n5, _⟩ := new b k hb
          rcases cases' d l hd with hd | ⟨_, hd⟩
          · obtain ⟨d0, l0, o1, o2, _, rfl, o3, o4, o5, _⟩ := new d l hd
            have := qr.apart b0 d0 k0 l0 i j n1 o1 (n3 i ok) (o3 j ol) (by rw [hxb _ n2, hxb _ o2]; exact e)
            rw [this]
          · exact absurd ((kept d l hd).2.2.2 _ (.inr ⟨j, ol, rfl⟩)) (e ▸ n5 i ok)
        · rcases cases' d l hd with hd | ⟨_, hd⟩
          · obtain ⟨d0, l0, o1, o2, _, rfl, o3, o4, o5, _⟩ := new d l hd
            exact absurd ((kept b k hb).2.2.2 _ (.inr ⟨i, ok, rfl⟩)) (e ▸ o5 j ol)
          · exact r3.apart b d k l i j (kept b k hb).1 (kept d l hd).1 ok ol e
      · intro b p s ks x hb
        rcases cases' b _ hb with hb | ⟨_, hb⟩
        · obtain ⟨_, _, _, _, _, _, _, _, _, n6⟩ := new b _ hb
          exact absurd rfl (n6 p s ks x)
        · obtain ⟨d1, d2, d3, _⟩ := kept b _ hb
          obtain ⟨e1, ls, y, cy, el, t, e2, e3, e4⟩ := r3.bors b p s ks x d1
          refine ⟨hl.b _ e1, ls, y, cy, el, t, e2, ?_, e4⟩
          have hpn := d3 p s ks x rfl
          rw [hhp, fget_fsets]
          cases hn : fget news p with
          | none => exact dropK_nest e3 rfl hpn
          | some k' =>
            obtain ⟨b0, k0, n1, n2, n3, e5, _⟩ := new p k' hn
            rcases n3 with n3 | n3
            · exact absurd e1 (e5 ▸ hfresh b0 n3 n2)
            · refine absurd ?_ hpn
              have hlt : b0 < c.h.nb := gvlt b0 n3
              have hb' : Nat.blt b0 c.h.nb = true := by rw [Nat.blt_eq]; exact hlt
              rw [e5]
              simp only [Ctr.rb, hb', cond_true]
              exact gvin b0 n3
      · intro x hx
        rw [hfs'] at hx
        simp only [List.mem_append] at hx
        rcases hx with hx | hx
        · simp only [newF, List.mem_filter, List.mem_map] at hx
          obtain ⟨⟨x0, hx0, rfl⟩, _⟩ := hx
          rw [Fact.ok_sub]
          exact (Fact.ok_vs (ρ' := subE (c.rx g h) ρ3) (hf3 ρ3 σ3 he) (hp3 ρ3 σ3 he) (fun i hi => hxv i (by simpa [blt', Nat.blt_eq] using hi)) (qf x0 hx0)).1 (qr.facts x0 hx0)
        · exact r3.facts x hx
    · obtain ⟨hxv, hxb⟩ := hren ρ3 σ3 he
      have := svP_ok hxb _ _ _ h1 (prOk_ok pv (hf3 ρ3 σ3 he) hxv)
      simp only [List.map_cons, List.map_nil, List.cons.injEq, and_true]
      rw [← this, vq]
  have lowv : ∀ ρ3 : Env, ρ3.f = ρ.f → (∀ i, h.alV i → ρ3.v i = ρ.v i) → ∀ i, i < c.h.nv → ρ'.v i = (c.rx g h i).den ρ3 := by
    intro ρ3 hf hv3 i hi
    have hb : Nat.blt i c.h.nv = true := by rw [Nat.blt_eq]; exact hi
    rw [hext.v i (Or.inl hi)]
    simp only [Ctr.rx, hb, cond_true]
    rw [gx i hi ρ3 hf hv3]
    rfl
  have fin : ∀ h' : H, h.le h' → h'.hp = fsets news (dropK gv h.hp) → h'.fs = newF h.fs (q.2.fs.map (Fact.sub (c.rx g h))) ++ h.fs → (∀ b, c.h.nb ≤ b → b < q.2.nb → h'.alB (h.topB + (b - c.h.nb))) → (∀ i, c.h.nv ≤ i → i < q.2.nv → h'.alV (h.topV + (i - c.h.nv))) →
      ∃ ρ'' σ'', Ext h ρ ρ'' σ σ'' ∧ HRep w0 B ρ'' σ'' h' w' ∧ VRep ρ'' σ'' h' [q.1.ren (c.rx g h) (c.rb g h)] [v] := by
    intro h' hl hhp hfs' newB newV
    let ρ'' : Env := ⟨fun i => bif Nat.blt i h.topV then ρ.v i else ρ'.v (i - h.topV + c.h.nv), ρ.f, ρ.p⟩
    let σ'' : Pl := fun b => bif Nat.blt b h.topB then σ b else σ' (b - h.topB + c.h.nb)
    have hx : Ext h ρ ρ'' σ σ'' := by
      refine ⟨rfl, rfl, fun i hi => ?_, fun b hb => ?_⟩
      · have : Nat.blt i h.topV = true := by rw [Nat.blt_eq]; exact H.alV_top hi
        simp only [ρ'', this, cond_true]
      · have : Nat.blt b h.topB = true := by rw [Nat.blt_eq]; exact H.alB_top hb
        simp only [σ'', this, cond_true]
    refine ⟨ρ'', σ'', hx, main ρ'' σ'' _ hx hl hhp hfs' (fun ρ3 σ3 he => ⟨fun i hi => ?_, fun b hb => ?_⟩) (fun b hb1 hb2 hal => ?_)⟩
    · by_cases hlt : i < c.h.nv
      · refine lowv ρ3 (he.f.trans hx.f) (fun j hj => ?_) i hlt
        rw [he.v j (hl.v j hj), hx.v j hj]
      · have hb : Nat.blt i c.h.nv = false := by rw [Bool.eq_false_iff, ne_eq, Nat.blt_eq]; exact hlt
        simp only [Ctr.rx, hb, cond_false, X.den]
        rw [he.v _ (newV i (by omega) hi)]
        have hb2 : Nat.blt (h.topV + (i - c.h.nv)) h.topV = false := by rw [Bool.eq_false_iff, ne_eq, Nat.blt_eq]; omega
        simp only [ρ'', hb2, cond_false]
        congr 1; omega
    · by_cases hlt : b < c.h.nb
      · have hb' : Nat.blt b c.h.nb = true := by rw [Nat.blt_eq]; exact hlt
        simp only [Ctr.rb, hb', cond_true]
        have h5 := gbs b hlt
        rw [hext.b b (Or.inl hlt), he.b _ (hl.b _ h5), hx.b _ h5]
      · have hb' : Nat.blt b c.h.nb = false := by rw [Bool.eq_false_iff, ne_eq, Nat.blt_eq]; exact hlt
        simp only [Ctr.rb, hb', cond_false]
        rw [he.b _ (newB b (by omega) hb)]
        have hb2 : Nat.blt (h.topB + (b - c.h.nb)) h.topB = false := by rw [Bool.eq_false_iff, ne_eq, Nat.blt_eq]; omega
        simp only [σ'', hb2, cond_false]
        congr 1; omega
    · have hb' : Nat.blt b c.h.nb = false := by rw [Bool.eq_false_iff, ne_eq, Nat.blt_eq]; omega
      simp only [Ctr.rb, hb', cond_false] at hal
      have := H.alB_top hal
      omega
  cases hs : h.still with
  | true =>
    simp only [hs, cond_true, Option.some.injEq] at ho
    subst ho
    have hs' := hs
    simp only [H.still, Bool.and_eq_true, beq_true] at hs'
    have tb : h.topB = h.nb := by simp [H.topB, bl, hs'.1]
    have tv : h.topV = h.nv := by simp [H.topV, bl, hs'.2]
    obtain ⟨ρ'', σ'', f1, f2, f3⟩ := fin { hp := fsets news (dropK gv h.hp), nb := h.nb + (q.2.nb - c.h.nb), xb := h.xb, nv := h.nv + (q.2.nv - c.h.nv), xv := h.xv, fs := newF h.fs (q.2.fs.map (Fact.sub (c.rx g h))) ++ h.fs } ⟨fun i hi => Or.inl (Nat.lt_of_lt_of_le (H.still_alV hs hi) (Nat.le_add_right _ _)), fun i hi => Or.inl (Nat.lt_of_lt_of_le (H.still_alB hs hi) (Nat.le_add_right _ _))⟩ rfl rfl
      (fun b hb1 hb2 => Or.inl (by rw [tb]; show _ < h.nb + (q.2.nb - c.h.nb); omega)) (fun i hi1 hi2 => Or.inl (by rw [tv]; show _ < h.nv + (q.2.nv - c.h.nv); omega))
    exact ⟨_, hp, ρ'', σ'', v, rfl, f1, ⟨fun i hi => Or.inl (Nat.lt_of_lt_of_le (H.still_alV hs hi) (Nat.le_add_right _ _)), fun i hi => Or.inl (Nat.lt_of_lt_of_le (H.still_alB hs hi) (Nat.le_add_right _ _))⟩, f2, f3⟩
  | false =>
    simp only [hs, cond_false, Option.some.injEq] at ho
    subst ho
    have hle2 : h.le { hp := fsets news (dropK gv h.hp), nb := h.nb, xb := moreBits h.xb (q.2.nb - c.h.nb), nv := h.nv, xv := moreBits h.xv (q.2.nv - c.h.nv), fs := newF h.fs (q.2.fs.map (Fact.sub (c.rx g h))) ++ h.fs } := by
      refine ⟨fun i hi => ?_, fun i hi => ?_⟩
      · rcases hi with hi | ⟨h1, h2⟩
        · exact .inl hi
        · refine .inr ⟨h1, ?_⟩
          show (moreBits h.xv _).testBit (i - h.nv) = true
          rw [moreBits_test, h2]; rfl
      · rcases hi with hi | ⟨h1, h2⟩
        · exact .inl hi
        · refine .inr ⟨h1, ?_⟩
          show (moreBits h.xb _).testBit (i - h.nb) = true
          rw [moreBits_test, h2]; rfl
    obtain ⟨ρ'', σ'', f1, f2, f3⟩ := fin _ hle2 rfl rfl (fun b hb1 hb2 => Or.inr ⟨by show h.nb ≤ _; unfold H.topB; omega, by
        show (moreBits h.xb _).testBit (_ - h.nb) = true
        rw [moreBits_test, show h.topB + (b - c.h.nb) - h.nb = bl h.xb + (b - c.h.nb) by unfold H.topB; omega]
        have e1 : decide (bl h.xb ≤ bl h.xb + (b - c.h.nb)) = true := by simp
        have e2 : decide (bl h.xb + (b - c.h.nb) - bl h.xb < q.2.nb - c.h.nb) = true := by simp; omega
        rw [e1, e2]; simp⟩) (fun i hi1 hi2 => Or.inr ⟨by show h.nv ≤ _; unfold H.topV; omega, by
        show (moreBits h.xv _).testBit (_ - h.nv) = true
        rw [moreBits_test, show h.topV + (i - c.h.nv) - h.nv = bl h.xv + (i - c.h.nv) by unfold H.topV; omega]
        have e1 : decide (bl h.xv ≤ bl h.xv + (i - c.h.nv)) = true := by simp
        have e2 : decide (bl h.xv + (i - c.h.nv) - bl h.xv < q.2.nv - c.h.nv) = true := by simp; omega
        rw [e1, e2]; simp⟩)
    exact ⟨_, hp, ρ'', σ'', v, rfl, f1, hle2, f2, f3⟩

theorem try_ok {i : Nat} : ∀ {cs : List Ctr}, (∀ c ∈ cs, CtrOk P I i c) → ∀ {args : List SV} {h : H} {ob : List Obl} {rs : List (SV × H)}, tryK cs args h = some (ob, rs) → CallOk P I i args h ob rs
  | [], _, args, h, ob, rs, e => by cases e
  | c :: r, hc, args, h, ob, rs, e => by
    simp only [tryK] at e
    split at e
    · rename_i q hq
      cases e
      exact use_ok (hc c List.mem_cons_self) hq
    · exact try_ok (fun c' hc' => hc c' (List.mem_cons_of_mem _ hc')) e
def BookOk (P : Program) (I : Interp) (b : Book) : Prop := ∀ q ∈ b, ∀ c ∈ q.2, CtrOk P I q.1 c
theorem Book.ok {b : Book} (h : BookOk P I b) : ∀ f k, b.hd f = some k → ∀ args hh ob rs, k args hh = some (ob, rs) → CallOk P I f args hh ob rs := by
  intro f k e args hh ob rs e2
  unfold Book.hd at e
  rw [Option.map_eq_some_iff] at e
  obtain ⟨cs, h1, rfl⟩ := e
  exact try_ok (h _ (fget_mem h1)) e2
/-- a contract by the executor: the run, the outcomes brought to the templates, what is to be shown. -/
theorem CtrOk.run {C : Ctx} (hC : CtxOk P I C) {f i : Nat} (hft : (C.ft i).isSome = true) {c : Ctr} {ob ob' : List Obl} {rs ts : List (SV × H)} (e : execCall C f i c.args c.h = some (ob, rs)) (hm : mergeK c.h rs ts = some ob')
    (hts : ∀ t ∈ ts, t ∈ c.outs) (hob : ∀ w, ∀ o ∈ ob ++ ob', o.ok ⟨w, I⟩) : CtrOk P I i c := by
  cases hf : C.ft i with
  | none => simp [hf] at hft
  | some fn => exact .of (merge_ok (execCall_ok hC hf e) hm hts) hob

/-- the same, the outcomes not written out. -/
def runK (C : Ctx) (f i : Nat) (c : Ctr) (ts : List (SV × H)) : Option (List Obl) :=
  (execCall C f i c.args c.h).bind fun q => (mergeK c.h q.2 ts).map fun ob => q.1 ++ ob
theorem CtrOk.run2 {C : Ctx} (hC : CtxOk P I C) {f i : Nat} (hft : (C.ft i).isSome = true) {c : Ctr} {ob : List Obl} {ts : List (SV × H)} (e : runK C f i c ts = some ob)
    (hts : ∀ t ∈ ts, t ∈ c.outs) (hob : ∀ w, ∀ o ∈ ob, o.ok ⟨w, I⟩) : CtrOk P I i c := by
  unfold runK at e
  obtain ⟨q, h1, e⟩ := bind1 e
  rw [Option.map_eq_some_iff] at e
  obtain ⟨ob', h2, rfl⟩ := e
  exact CtrOk.run hC hft (ob := q.1) (rs := q.2) h1 h2 hts hob
end Go.SE
end
/-! The symbolic executor: the tables of a program. -/
noncomputable section
set_option linter.unusedSimpArgs false
set_option linter.unusedVariables false
namespace Go.SE

inductive Tr (α : Type) where
  | e | n (l : Tr α) (v : Option α) (r : Tr α)
def Tr.get {α : Type} : Tr α → Nat → Option α
  | .e, _ => none
  | .n l v r, k => bif Nat.beq k 0 then v else bif Nat.beq (k % 2) 1 then l.get (k / 2) else r.get (k / 2 - 1)
def Tr.all {α : Type} (f : Nat → α → Bool) : Tr α → (Nat → Nat) → Bool
  | .e, _ => true
  | .n l v r, g => (match v with | none => true | some a => f (g 0) a) && (l.all f (fun k => g (2 * k + 1)) && r.all f (fun k => g (2 * k + 2)))
theorem Tr.all_ok {α : Type} {f : Nat → α → Bool} : ∀ {t : Tr α} {g : Nat → Nat}, t.all f g = true → ∀ k v, t.get k = some v → f (g k) v = true
  | .e, g, _, k, v, h => by cases h
  | .n l w r, g, ha, k, v, h => by
    simp only [Tr.all, Bool.and_eq_true] at ha
    simp only [Tr.get] at h
    cases h0 : Nat.beq k 0 with
    | true =>
      have := beq_true.1 h0
      subst this
      simp only [h0, cond_true] at h
      subst h
      exact ha.1
    | false =>
      have hk := beq_false.1 h0
      simp only [h0, cond_false] at h
      cases h1 : Nat.beq (k % 2) 1 with
      | true =>
        have h2 := beq_true.1 h1
        simp only [h1, cond_true] at h
        have := Tr.all_ok ha.2.1 (k / 2) v h
        have e : 2 * (k / 2) + 1 = k := by omega
        simpa only [e] using this
      | false =>
        have h2 := beq_false.1 h1
        simp only [h1, cond_false] at h
        have := Tr.all_ok ha.2.2 (k / 2 - 1) v h
        have e : 2 * (k / 2 - 1) + 2 = k := by omega
        simpa only [e] using this
def Tr.upd {α : Type} (x : α) : Nat → Tr α → Nat → Tr α
  | 0, t, _ => t
  | f + 1, .e, k => if k = 0 then .n .e (some x) .e else if k % 2 = 1 then .n (upd x f .e (k / 2)) none .e else .n .e none (upd x f .e (k / 2 - 1))
  | f + 1, .n l v r, k => if k = 0 then .n l (some x) r else if k % 2 = 1 then .n (upd x f l (k / 2)) v r else .n l v (upd x f r (k / 2 - 1))

/-- Does a value stand for a symbolic one, whatever the environment? -/
def valIs : SV → Value → Bool
  | .bool (.t a), .bool b => a == b
  | .int k (.n a), .int l b => decide (k = l) && decide (a = b)
  | .str (.s a), .string b => beqL a (toB b)
  | .nilp, .pointer none => true
  | .nils, .slice none 0 0 => true
  | .nilmap, .map none => true
  | .nilfn, .nilFunc => true
  | .niface, .nilIface => true
  | .agg l, .agg v => all l v.toList
  | _, _ => false
where
  all : List SV → List Value → Bool
    | [], [] => true
    | a :: x, b :: y => valIs a b && all x y
    | _, _ => false
mutual
theorem valIs_ok (ρ : Env) (σ : Pl) : ∀ (s : SV) (v : Value), valIs s v = true → s.val ρ σ = v
  | .bool x, v, h => by
    cases x <;> cases v <;> simp only [valIs, reduceCtorEq, Bool.false_eq_true, beq_iff_eq] at h
    subst h; rfl
  | .int k x, v, h => by
    cases x <;> cases v <;> simp only [valIs, reduceCtorEq, Bool.false_eq_true, Bool.and_eq_true, decide_eq_true_eq] at h
    obtain ⟨rfl, rfl⟩ := h; rfl
  | .str x, v, h => by
    cases x <;> cases v <;> simp only [valIs, reduceCtorEq, Bool.false_eq_true] at h
    have := (beqL_iff _ _).1 h
    subst this
    simp [SV.val, X.den, bytesOf_toB]
  | .nilp, v, h => by
    unfold valIs at h
    split at h <;> simp_all [SV.val]
  | .nils, v, h => by
    unfold valIs at h
    split at h <;> simp_all [SV.val]
  | .nilmap, v, h => by
    unfold valIs at h
    split at h <;> simp_all [SV.val]
  | .nilfn, v, h => by
    unfold valIs at h
    split at h <;> simp_all [SV.val]
  | .niface, v, h => by
    unfold valIs at h
    split at h <;> simp_all [SV.val]
  | .agg l, v, h => by
    cases v <;> simp only [valIs, reduceCtorEq, Bool.false_eq_true] at h
    rename_i c
    have := valIs_all ρ σ l c.toList h
    simp only [SV.val, vals_eq, this]
  | .ptr .., v, h | .slice .., v, h | .map _, v, h | .fn .., v, h | .iface .., v, h | .tuple _, v, h => by cases v <;> simp [valIs] at h
theorem valIs_all (ρ : Env) (σ : Pl) : ∀ (l : List SV) (vs : List Value), valIs.all l vs = true → l.map (SV.val ρ σ) = vs
  | [], vs, h => by cases vs <;> simp only [valIs.all, reduceCtorEq, Bool.false_eq_true] at h; rfl
  | a :: l, vs, h => by
    cases vs <;> simp only [valIs.all, reduceCtorEq, Bool.false_eq_true, Bool.and_eq_true] at h
    simp [valIs_ok ρ σ _ _ h.1, valIs_all ρ σ _ _ h.2]
end

def ulIs (P : Program) (t : Nat) : UL → Bool
  | .bool => match P.underlying t with | some .bool => true | _ => false
  | .int k => match P.underlying t with | some (.int l) => decide (k = l) | _ => false
  | .str => match P.underlying t with | some .string => true | _ => false
  | .ptr e => match P.underlying t with | some (.pointer f) => Nat.beq e f | _ => false
  | .slice e => match P.underlying t with | some (.slice f) => Nat.beq e f | _ => false
  | .arr n e => match P.underlying t with | some (.array m f) => Nat.beq n m && Nat.beq e f | _ => false
  | .map k e => match P.underlying t with | some (.map l f) => Nat.beq k l && Nat.beq e f | _ => false
  | .struct fs pl => match P.underlying t with
    | some (.struct F) => fsIs P fs F.toList && (!pl || (!P.stoodInHeld t && F.toList.all fun f => !(f.name == "_")))
    | _ => false
  | .func => match P.underlying t with | some (.func ..) => true | _ => false
  | .iface => match P.underlying t with | some (.interface _) => true | _ => false
  | .other => true
where
  fsIs (P : Program) : List (Nat × Nat × Nat) → List Field → Bool
    | [], [] => true
    | q :: l, f :: m => Nat.beq q.1 f.type && (Nat.beq q.2.1 f.offset && ((match P.info? q.1 with | some i => Nat.beq i.size q.2.2 | none => false) && fsIs P l m))
    | _, _ => false
theorem fsIs_ok {P : Program} : ∀ {fs : List (Nat × Nat × Nat)} {F : List Field}, ulIs.fsIs P fs F = true →
    F.map (fun f => (f.type, f.offset)) = fs.map (fun q => (q.1, q.2.1)) ∧ ∀ q ∈ fs, ∃ i, P.info? q.1 = some i ∧ i.size = q.2.2
  | [], [], _ => ⟨rfl, by simp⟩
  | [], _ :: _, h => by cases h
  | _ :: _, [], h => by cases h
  | q :: l, f :: m, h => by
    simp only [ulIs.fsIs, Bool.and_eq_true, beq_true] at h
    obtain ⟨h1, h2, h3, h4⟩ := h
    obtain ⟨e1, e2⟩ := fsIs_ok h4
    refine ⟨by simp [h1, h2, e1], fun p hp => ?_⟩
    simp only [List.mem_cons] at hp
    rcases hp with rfl | hp
    · split at h3
      · rename_i i hi; exact ⟨i, hi, beq_true.1 h3⟩
      · cases h3
    · exact e2 p hp
theorem ulIs_ok {P : Program} {t : Nat} {u : UL} (h : ulIs P t u = true) : ULOk P t u := by
  cases u <;> simp only [ulIs] at h <;> simp only [ULOk]
  case struct fs pl =>
    split at h
    · rename_i F hF
      simp only [Bool.and_eq_true] at h
      obtain ⟨e1, e2⟩ := fsIs_ok h.1
      refine ⟨F, hF, e1, e2, fun hp => ?_⟩
      have h2 := h.2
      rw [hp] at h2
      simp only [Bool.not_true, Bool.false_or, Bool.and_eq_true, Bool.not_eq_true', List.all_eq_true, beq_eq_false_iff_ne, ne_eq] at h2
      exact ⟨h2.1, h2.2⟩
    · cases h
  case func => split at h <;> first | (rename_i ps rs v hF; exact ⟨ps, rs, v, hF⟩) | (cases h; done)
  case iface => split at h <;> first | (rename_i ms hF; exact ⟨ms, hF⟩) | (cases h; done)
  all_goals
    split at h <;> first
      | (cases h; done)
      | (rename_i hF; simp only [Bool.and_eq_true, beq_true, decide_eq_true_eq] at h; first | (rw [hF]; simp [h]; done) | (rw [hF, h]; done) | (rw [hF]; done))
def tyIs (P : Program) (t : Nat) (ty : Ty) : Bool :=
  match P.info? t with
  | some i => Nat.beq i.size ty.size && (Nat.beq i.bytes ty.bytes && ((match ty.zero with | none => true | some z => match i.zero with | some v => valIs z v | none => false) && ulIs P t ty.ul))
  | none => false
theorem tyIs_ok {P : Program} {t : Nat} {ty : Ty} (h : tyIs P t ty = true) : TyOk P t ty := by
  unfold tyIs at h
  split at h
  · rename_i i hi
    simp only [Bool.and_eq_true, beq_true] at h
    obtain ⟨h1, h2, h3, h4⟩ := h
    refine ⟨⟨i, hi, h1, h2, fun z hz ρ σ => ?_⟩, ulIs_ok h4⟩
    rw [hz] at h3
    simp only at h3
    split at h3
    · rename_i v hv
      rw [hv, valIs_ok ρ σ z v h3]
    · cases h3
  · cases h
theorem tabOk {P : Program} {tr : Tr Ty} (h : tr.all (tyIs P) id = true) : TabOk P tr.get := fun t ty ht => tyIs_ok (Tr.all_ok h t ty ht)
end Go.SE
namespace Go.SE
def Tr.allP {α : Type} (p : Nat → α → Prop) : Tr α → (Nat → Nat) → Prop
  | .e, _ => True
  | .n l v r, g => (match v with | none => True | some a => p (g 0) a) ∧ l.allP p (fun k => g (2 * k + 1)) ∧ r.allP p (fun k => g (2 * k + 2))
theorem Tr.allP_ok {α : Type} {p : Nat → α → Prop} : ∀ {t : Tr α} {g : Nat → Nat}, t.allP p g → ∀ k v, t.get k = some v → p (g k) v
  | .e, g, _, k, v, h => by cases h
  | .n l w r, g, ha, k, v, h => by
    simp only [Tr.allP] at ha
    simp only [Tr.get] at h
    cases h0 : Nat.beq k 0 with
    | true =>
      have := beq_true.1 h0
      subst this
      simp only [h0, cond_true] at h
      subst h
      exact ha.1
    | false =>
      have hk := beq_false.1 h0
      simp only [h0, cond_false] at h
      cases h1 : Nat.beq (k % 2) 1 with
      | true =>
        have h2 := beq_true.1 h1
        simp only [h1, cond_true] at h
        have := Tr.allP_ok ha.2.1 (k / 2) v h
        have e : 2 * (k / 2) + 1 = k := by omega
        simpa only [e] using this
      | false =>
        have h2 := beq_false.1 h1
        simp only [h1, cond_false] at h
        have := Tr.allP_ok ha.2.2 (k / 2 - 1) v h
        have e : 2 * (k / 2 - 1) + 2 = k := by omega
        simpa only [e] using this
/-- A function of the table is the program's. -/
def FOk (P : Program) (f : Nat) (fn : Func) : Prop := P.funcs[f]? = some fn ∧ fn.body.isSome = true ∧ (fn.name == "runtime.NumGoroutine") = false

/-! Methods. -/
def mtIs (P : Program) (t : Nat) (nm : String) (f : Nat) : Bool :=
  match P.info? t with
  | some i => match i.methods.find? (·.name == nm) with
    | some m => match m.path.toList, m.func, P.underlying t with
      | [], some (g, b), some (.pointer _) => Nat.beq g f && b
      | [], some (g, b), some _ => Nat.beq g f && !b
      | _, _, _ => false
    | none => false
  | none => false
def mtGet : List (Nat × String × Nat) → Nat → String → Option Nat
  | [], _, _ => none
  | (t', n', f) :: r, t, nm => bif Nat.beq t' t && (n' == nm) then some f else mtGet r t nm
theorem mtIs_ok {P : Program} {t : Nat} {nm : String} {f : Nat} (h : mtIs P t nm f = true) (n : Nat) (v : Value) (w : World) : (method (n + 1) t v nm).run P w = .ok (f, v) w := by
  unfold mtIs at h
  split at h
  case h_2 => cases h
  rename_i i hi
  split at h
  case h_2 => cases h
  rename_i m hm
  have key : ∀ b, m.path.toList = [] → m.func = some (f, b) → (∃ u, P.underlying t = some u ∧ ((∃ e, u = .pointer e) ↔ b = true)) → (method (n + 1) t v nm).run P w = .ok (f, v) w := by
    intro b hp hf ⟨u, hu, hb⟩
    unfold method
    simp only [Sem.run_bind, typeInfo, run_program, Result.andThen_ok, hi, Sem.run_pure, hm, hp, follow, hf]
    unfold receiverAt
    simp only [Sem.run_bind, run_underlying hu, Result.andThen_ok]
    cases b with
    | true =>
      obtain ⟨e, rfl⟩ := hb.2 rfl
      simp [Place.get]
    | false =>
      have hne : ∀ e, u ≠ .pointer e := fun e he => by simpa using hb.1 ⟨e, he⟩
      cases u <;> first | (exact absurd rfl (hne _)) | simp [Place.get]
  split at h
  · rename_i g b e hp hf hu
    simp only [Bool.and_eq_true, beq_true] at h
    obtain ⟨rfl, rfl⟩ := h
    exact key true hp hf ⟨_, hu, by simp⟩
  · rename_i g b u hn hp hf hu
    simp only [Bool.and_eq_true, beq_true, Bool.not_eq_true'] at h
    obtain ⟨rfl, rfl⟩ := h
    refine key false hp hf ⟨_, hu, ⟨fun ⟨e, he⟩ => ?_, fun h => by cases h⟩⟩
    subst he
    exact (hn e rfl).elim
  · cases h
theorem mt_ok {P : Program} {tbl : List (Nat × String × Nat)} (h : tbl.all (fun q => mtIs P q.1 q.2.1 q.2.2) = true) : ∀ t m f, mtGet tbl t m = some f → ∀ v w, (method (P.types.size + Made.depth) t v m).run P w = .ok (f, v) w := by
  induction tbl with
  | nil => intro t m f e; cases e
  | cons q r ih =>
    obtain ⟨t', n', f'⟩ := q
    simp only [List.all_cons, Bool.and_eq_true] at h
    intro t m f e v w
    simp only [mtGet] at e
    cases hc : (Nat.beq t' t && (n' == m)) with
    | true =>
      simp only [hc, cond_true, Option.some.injEq] at e
      subst e
      simp only [Bool.and_eq_true, beq_true, beq_iff_eq] at hc
      obtain ⟨rfl, rfl⟩ := hc
      have hpos : 0 < Made.depth := by decide
      obtain ⟨k, hk⟩ : ∃ k, P.types.size + Made.depth = k + 1 := ⟨P.types.size + Made.depth - 1, by omega⟩
      rw [hk]
      exact mtIs_ok h.1 k v w
    | false =>
      simp only [hc, cond_false] at e
      exact ih h.2 t m f e v w
end Go.SE
end
/-! The tables of this seat's program (printed by a program: gen/tab.lean). -/
noncomputable section
set_option linter.unusedSimpArgs false
set_option linter.unusedVariables false
namespace Go.Proofs.YtkphkjffcpkhjaaDoor
open Go Go.SE
set_option maxRecDepth 1000000
def tyTab : Tr Ty := .n (.n (.n (.n (.n (.n (.n (.n (.e) (some (⟨.int .u64, 1, 8, some (.int .u64 (.n 0))⟩)) (.e)) none (.n (.e) (some (⟨.func, 1, 8, some (.nilfn)⟩)) (.e))) (some (⟨.slice 9, 1, 24, some (.nils)⟩)) (.n (.n (.e) (some (⟨.func, 1, 8, some (.nilfn)⟩)) (.e)) (some (⟨.struct [(9, 0, 1), (9, 1, 1), (9, 2, 1), (9, 3, 1)] false, 4, 64, some (.agg [.str (.s []), .str (.s []), .str (.s []), .str (.s [])])⟩)) (.n (.e) (some (⟨.struct [(12, 0, 1), (12, 1, 1), (46, 2, 1), (218, 3, 1), (5, 4, 1), (5, 5, 1), (134, 6, 1), (219, 7, 1), (153, 8, 1), (220, 9, 1), (221, 10, 1)] false, 11, 48, some (.agg [.int .u64 (.n 0), .int .u64 (.n 0), .int .u32 (.n 0), .int .u8 (.n 0), .int .u8 (.n 0), .int .u8 (.n 0), .int .u8 (.n 0), .nilfn, .nilp, .int .i32 (.n 0), .int .i32 (.n 0)])⟩)) (.e)))) (some (⟨.ptr 212, 1, 8, some (.nilp)⟩)) (.n (.n (.n (.e) (some (⟨.func, 1, 8, some (.nilfn)⟩)) (.e)) (some (⟨.func, 1, 8, some (.nilfn)⟩)) (.n (.e) (some (⟨.ptr 193, 1, 8, some (.nilp)⟩)) (.e))) (some (⟨.func, 1, 8, some (.nilfn)⟩)) (.n (.n (.e) (some (⟨.func, 1, 8, some (.nilfn)⟩)) (.e)) (some (⟨.func, 1, 8, some (.nilfn)⟩)) (.n (.e) (some (⟨.ptr 57, 1, 8, some (.nilp)⟩)) (.e))))) (some (⟨.struct [(2, 0, 1), (3, 1, 1), (4, 2, 1), (6, 3, 1)] false, 4, 24, some (.agg [.int .i64 (.n 0), .int .i64 (.n 0), .bool (.t false), .int .u8 (.n 0)])⟩)) (.n (.n (.n (.n (.e) (some (⟨.func, 1, 8, some (.nilfn)⟩)) (.e)) (some (⟨.map 9 2, 1, 8, some (.nilmap)⟩)) (.n (.e) none (.e))) (some (⟨.func, 1, 8, some (.nilfn)⟩)) (.n (.n (.e) (some (⟨.func, 1, 8, some (.nilfn)⟩)) (.e)) (some (⟨.func, 1, 8, some (.nilfn)⟩)) (.n (.e) (some (⟨.ptr 234, 1, 8, some (.nilp)⟩)) (.e)))) (some (⟨.slice 5, 1, 24, some (.nils)⟩)) (.n (.n (.n (.e) (some (⟨.slice 149, 1, 24, some (.nils)⟩)) (.e)) (some (⟨.func, 1, 8, some (.nilfn)⟩)) (.n (.e) (some (⟨.struct [(213, 0, 0)] false, 0, 0, some (.agg [])⟩)) (.e))) (some (⟨.func, 1, 8, some (.nilfn)⟩)) (.n (.n (.e) (some (⟨.func, 1, 8, some (.nilfn)⟩)) (.e)) (some (⟨.struct [(117, 0, 1), (23, 1, 1)] false, 2, 32, some (.agg [.nilp, .nils])⟩)) (.e))))) (some (⟨.int .i64, 1, 8, some (.int .i64 (.n 0))⟩)) (.n (.n (.n (.n (.n (.e) (some (⟨.iface, 1, 16, some (.niface)⟩)) (.e)) (some (⟨.func, 1, 8, some (.nilfn)⟩)) (.n (.e) (some (⟨.slice 31, 1, 24, some (.nils)⟩)) (.e))) (some (⟨.arr 3 4, 3, 3, some (.agg [.bool (.t false), .bool (.t false), .bool (.t false)])⟩)) (.n (.n (.e) (some (⟨.iface, 1, 16, some (.niface)⟩)) (.e)) (some (⟨.struct [] true, 0, 0, some (.agg [])⟩)) (.n (.e) (some (⟨.func, 1, 8, some (.nilfn)⟩)) (.e)))) (some (⟨.struct [(17, 0, 1)] false, 1, 8, some (.agg [.nilp])⟩)) (.n (.n (.n (.e) (some (⟨.func, 1, 8, some (.nilfn)⟩)) (.e)) (some (⟨.ptr 81, 1, 8, some (.nilp)⟩)) (.n (.e) (some (⟨.struct [(17, 0, 1), (17, 1, 1), (17, 2, 1), (9, 3, 1)] false, 4, 40, some (.agg [.nilp, .nilp, .nilp, .str (.s [])])⟩)) (.e))) (some (⟨.struct [(49, 0, 1), (48, 1, 1)] false, 2, 48, some (.agg [.nils, .nils])⟩)) (.n (.n (.e) (some (⟨.func, 1, 8, some (.nilfn)⟩)) (.e)) none (.e)))) (some (⟨.str, 1, 16, some (.str (.s []))⟩)) (.n (.n (.n (.n (.e) (some (⟨.arr 256 5, 256, 256, none⟩)) (.e)) (some (⟨.func, 1, 8, some (.nilfn)⟩)) (.n (.e) (some (⟨.arr 65 5, 65, 65, none⟩)) (.e))) (some (⟨.arr 4 4, 4, 4, some (.agg [.bool (.t false), .bool (.t false), .bool (.t false), .bool (.t false)])⟩)) (.n (.n (.e) (some (⟨.func, 1, 8, some (.nilfn)⟩)) (.e)) (some (⟨.func, 1, 8, some (.nilfn)⟩)) (.n (.e) (some (⟨.slice 238, 1, 24, some (.nils)⟩)) (.e)))) none (.n (.n (.n (.e) (some (⟨.struct [(17, 0, 1)] false, 1, 8, some (.agg [.nilp])⟩)) (.e)) (some (⟨.struct [(4, 0, 1)] false, 1, 1, some (.agg [.bool (.t false)])⟩)) (.n (.e) (some (⟨.func, 1, 8, some (.nilfn)⟩)) (.e))) (some (⟨.func, 1, 8, some (.nilfn)⟩)) (.n (.n (.e) (some (⟨.struct [(184, 0, 1), (185, 1, 1), (3, 2, 1)] false, 3, 56, some (.agg [.nils, .nils, .int .i64 (.n 0)])⟩)) (.e)) (some (⟨.func, 1, 8, some (.nilfn)⟩)) (.e)))))) (some (⟨.func, 1, 8, some (.nilfn)⟩)) (.n (.n (.n (.n (.n (.n (.e) (some (⟨.struct [(17, 0, 1), (126, 1, 1), (127, 2, 1)] false, 3, 24, some (.agg [.nilp, .nilp, .int .u64 (.n 0)])⟩)) (.e)) (some (⟨.iface, 1, 16, some (.niface)⟩)) (.n (.e) (some (⟨.struct [(46, 0, 1), (46, 1, 1), (46, 2, 1)] true, 3, 12, some (.agg [.int .u32 (.n 0), .int .u32 (.n 0), .int .u32 (.n 0)])⟩)) (.e))) (some (⟨.func, 1, 8, some (.nilfn)⟩)) (.n (.n (.e) none (.e)) (some (⟨.struct [] true, 0, 0, some (.agg [])⟩)) (.n (.e) (some (⟨.func, 1, 8, some (.nilfn)⟩)) (.e)))) (some (⟨.ptr 223, 1, 8, some (.nilp)⟩)) (.n (.n (.n (.e) (some (⟨.func, 1, 8, some (.nilfn)⟩)) (.e)) (some (⟨.ptr 86, 1, 8, some (.nilp)⟩)) (.n (.e) (some (⟨.arr 32 5, 32, 32, some (.agg [.int .u8 (.n 0), .int .u8 (.n 0), .int .u8 (.n 0), .int .u8 (.n 0), .int .u8 (.n 0), .int .u8 (.n 0), .int .u8 (.n 0), .int .u8 (.n 0), .int .u8 (.n 0), .int .u8 (.n 0), .int .u8 (.n 0), .int .u8 (.n 0), .int .u8 (.n 0), .int .u8 (.n 0), .int .u8 (.n 0), .int .u8 (.n 0), .int .u8 (.n 0), .int .u8 (.n 0), .int .u8 (.n 0), .int .u8 (.n 0), .int .u8 (.n 0), .int .u8 (.n 0), .int .u8 (.n 0), .int .u8 (.n 0), .int .u8 (.n 0), .int .u8 (.n 0), .int .u8 (.n 0), .int .u8 (.n 0), .int .u8 (.n 0), .int .u8 (.n 0), .int .u8 (.n 0), .int .u8 (.n 0)])⟩)) (.e))) (some (⟨.slice 3, 1, 24, some (.nils)⟩)) (.n (.n (.e) (some (⟨.func, 1, 8, some (.nilfn)⟩)) (.e)) (some (⟨.func, 1, 8, some (.nilfn)⟩)) (.e)))) (some (⟨.str, 1, 16, some (.str (.s []))⟩)) (.n (.n (.n (.n (.e) (some (⟨.func, 1, 8, some (.nilfn)⟩)) (.e)) (some (⟨.struct [(71, 0, 1), (34, 1, 3), (2, 4, 1)] false, 5, 40, some (.agg [.nilmap, .int .i64 (.n 0), .int .i64 (.n 0), .int .i64 (.n 0), .int .i64 (.n 0)])⟩)) (.n (.e) (some (⟨.func, 1, 8, some (.nilfn)⟩)) (.e))) (some (⟨.func, 1, 8, some (.nilfn)⟩)) (.n (.n (.e) (some (⟨.struct [(3, 0, 1), (3, 1, 1)] true, 2, 16, some (.agg [.int .i64 (.n 0), .int .i64 (.n 0)])⟩)) (.e)) (some (⟨.struct [(9, 0, 1), (3, 1, 1), (4, 2, 1), (4, 3, 1)] false, 4, 32, some (.agg [.str (.s []), .int .i64 (.n 0), .bool (.t false), .bool (.t false)])⟩)) (.n (.e) (some (⟨.struct [(220, 0, 1), (188, 1, 1), (188, 2, 1), (46, 3, 1), (46, 4, 1)] false, 5, 16, some (.agg [.int .i32 (.n 0), .int .u16 (.n 0), .int .u16 (.n 0), .int .u32 (.n 0), .int .u32 (.n 0)])⟩)) (.e)))) (some (⟨.slice 26, 1, 24, some (.nils)⟩)) (.n (.n (.n (.e) (some (⟨.ptr 5, 1, 8, some (.nilp)⟩)) (.e)) (some (⟨.func, 1, 8, some (.nilfn)⟩)) (.n (.e) (some (⟨.func, 1, 8, some (.nilfn)⟩)) (.e))) (some (⟨.iface, 1, 16, some (.niface)⟩)) (.n (.n (.e) (some (⟨.slice 193, 1, 24, some (.nils)⟩)) (.e)) (some (⟨.func, 1, 8, some (.nilfn)⟩)) (.e))))) (some (⟨.int .u8, 1, 1, some (.int .u8 (.n 0))⟩)) (.n (.n (.n (.n (.n (.e) (some (⟨.func, 1, 8, some (.nilfn)⟩)) (.e)) (some (⟨.func, 1, 8, some (.nilfn)⟩)) (.n (.e) none (.e))) (some (⟨.func, 1, 8, some (.nilfn)⟩)) (.n (.n (.e) (some (⟨.iface, 1, 16, some (.niface)⟩)) (.e)) none (.n (.e) (some (⟨.struct [(9, 0, 1), (134, 1, 1)] false, 2, 24, some (.agg [.str (.s []), .int .u8 (.n 0)])⟩)) (.e)))) (some (⟨.int .i32, 1, 4, some (.int .i32 (.n 0))⟩)) (.n (.n (.n (.e) (some (⟨.struct [(3, 0, 1), (3, 1, 1)] true, 2, 16, some (.agg [.int .i64 (.n 0), .int .i64 (.n 0)])⟩)) (.e)) (some (⟨.struct [(3, 0, 1), (84, 1, 1)] true, 2, 16, some (.agg [.int .i64 (.n 0), .int .i64 (.n 0)])⟩)) (.n (.e) (some (⟨.arr 0 16, 0, 0, some (.agg [])⟩)) (.e))) (some (⟨.struct [(3, 0, 1), (3, 1, 1), (3, 2, 1), (2, 3, 1), (9, 4, 1)] false, 5, 48, some (.agg [.int .i64 (.n 0), .int .i64 (.n 0), .int .i64 (.n 0), .int .i64 (.n 0), .str (.s [])])⟩)) (.n (.n (.e) none (.e)) (some (⟨.ptr 119, 1, 8, some (.nilp)⟩)) (.e)))) (some (⟨.struct [(9, 0, 1), (12, 1, 1)] false, 2, 24, some (.agg [.str (.s []), .int .u64 (.n 0)])⟩)) (.n (.n (.n (.n (.e) (some (⟨.func, 1, 8, some (.nilfn)⟩)) (.e)) none (.n (.e) (some (⟨.func, 1, 8, some (.nilfn)⟩)) (.e))) (some (⟨.slice 46, 1, 24, some (.nils)⟩)) (.n (.n (.e) (some (⟨.func, 1, 8, some (.nilfn)⟩)) (.e)) (some (⟨.int .u64, 1, 8, some (.int .u64 (.n 0))⟩)) (.n (.e) (some (⟨.struct [(220, 0, 1), (221, 1, 1), (236, 2, 1), (236, 3, 1)] false, 4, 16, some (.agg [.int .i32 (.n 0), .int .i32 (.n 0), .int .i32 (.n 0), .int .i32 (.n 0)])⟩)) (.e)))) (some (⟨.func, 1, 8, some (.nilfn)⟩)) (.n (.n (.n (.e) (some (⟨.func, 1, 8, some (.nilfn)⟩)) (.e)) (some (⟨.struct [(9, 0, 1), (9, 1, 1)] false, 2, 32, some (.agg [.str (.s []), .str (.s [])])⟩)) (.n (.e) (some (⟨.int .i32, 1, 4, some (.int .i32 (.n 0))⟩)) (.e))) (some (⟨.func, 1, 8, some (.nilfn)⟩)) (.n (.n (.e) (some (⟨.struct [(188, 0, 1), (188, 1, 1), (188, 2, 1)] true, 3, 6, some (.agg [.int .u16 (.n 0), .int .u16 (.n 0), .int .u16 (.n 0)])⟩)) (.e)) (some (⟨.func, 1, 8, some (.nilfn)⟩)) (.e))))))) none (.n (.n (.n (.n (.n (.n (.n (.e) (some (⟨.struct [(17, 0, 1), (126, 1, 1), (127, 2, 1)] false, 3, 24, some (.agg [.nilp, .nilp, .int .u64 (.n 0)])⟩)) (.e)) (some (⟨.func, 1, 8, some (.nilfn)⟩)) (.n (.e) (some (⟨.struct [(46, 0, 1), (46, 1, 1), (46, 2, 1)] true, 3, 12, some (.agg [.int .u32 (.n 0), .int .u32 (.n 0), .int .u32 (.n 0)])⟩)) (.e))) (some (⟨.func, 1, 8, some (.nilfn)⟩)) (.n (.n (.e) (some (⟨.iface, 1, 16, some (.niface)⟩)) (.e)) (some (⟨.struct [(9, 0, 1), (9, 1, 1), (9, 2, 1), (9, 3, 1)] false, 4, 64, some (.agg [.str (.s []), .str (.s []), .str (.s []), .str (.s [])])⟩)) (.n (.e) (some (⟨.func, 1, 8, some (.nilfn)⟩)) (.e)))) (some (⟨.ptr 215, 1, 8, some (.nilp)⟩)) (.n (.n (.n (.e) none (.e)) (some (⟨.func, 1, 8, some (.nilfn)⟩)) (.n (.e) (some (⟨.func, 1, 8, some (.nilfn)⟩)) (.e))) (some (⟨.slice 53, 1, 24, some (.nils)⟩)) (.n (.n (.e) none (.e)) (some (⟨.func, 1, 8, some (.nilfn)⟩)) (.e)))) (some (⟨.struct [(2, 0, 1), (3, 1, 1), (4, 2, 1), (6, 3, 1)] false, 4, 24, some (.agg [.int .i64 (.n 0), .int .i64 (.n 0), .bool (.t false), .int .u8 (.n 0)])⟩)) (.n (.n (.n (.n (.e) (some (⟨.func, 1, 8, some (.nilfn)⟩)) (.e)) (some (⟨.struct [(71, 0, 1), (34, 1, 3), (2, 4, 1)] false, 5, 40, some (.agg [.nilmap, .int .i64 (.n 0), .int .i64 (.n 0), .int .i64 (.n 0), .int .i64 (.n 0)])⟩)) (.n (.e) (some (⟨.func, 1, 8, some (.nilfn)⟩)) (.e))) (some (⟨.func, 1, 8, some (.nilfn)⟩)) (.n (.n (.e) (some (⟨.slice 170, 1, 24, some (.nils)⟩)) (.e)) (some (⟨.struct [(9, 0, 1), (3, 1, 1), (4, 2, 1), (4, 3, 1)] false, 4, 32, some (.agg [.str (.s []), .int .i64 (.n 0), .bool (.t false), .bool (.t false)])⟩)) (.n (.e) (some (⟨.func, 1, 8, some (.nilfn)⟩)) (.e)))) (some (⟨.func, 1, 8, some (.nilfn)⟩)) (.n (.n (.n (.e) (some (⟨.func, 1, 8, some (.nilfn)⟩)) (.e)) (some (⟨.func, 1, 8, some (.nilfn)⟩)) (.n (.e) (some (⟨.func, 1, 8, some (.nilfn)⟩)) (.e))) (some (⟨.iface, 1, 16, some (.niface)⟩)) (.n (.n (.e) (some (⟨.slice 190, 1, 24, some (.nils)⟩)) (.e)) (some (⟨.func, 1, 8, some (.nilfn)⟩)) (.e))))) (some (⟨.bool, 1, 1, some (.bool (.t false))⟩)) (.n (.n (.n (.n (.n (.e) (some (⟨.iface, 1, 16, some (.niface)⟩)) (.e)) none (.n (.e) (some (⟨.func, 1, 8, some (.nilfn)⟩)) (.e))) none (.n (.n (.e) (some (⟨.func, 1, 8, some (.nilfn)⟩)) (.e)) (some (⟨.struct [] true, 0, 0, some (.agg [])⟩)) (.n (.e) (some (⟨.func, 1, 8, some (.nilfn)⟩)) (.e)))) (some (⟨.iface, 1, 16, some (.niface)⟩)) (.n (.n (.n (.e) (some (⟨.struct [(3, 0, 1), (3, 1, 1)] true, 2, 16, some (.agg [.int .i64 (.n 0), .int .i64 (.n 0)])⟩)) (.e)) (some (⟨.int .i64, 1, 8, some (.int .i64 (.n 0))⟩)) (.n (.e) (some (⟨.struct [(17, 0, 1), (17, 1, 1), (17, 2, 1), (9, 3, 1)] false, 4, 40, some (.agg [.nilp, .nilp, .nilp, .str (.s [])])⟩)) (.e))) (some (⟨.struct [(3, 0, 1), (3, 1, 1), (3, 2, 1), (2, 3, 1), (9, 4, 1)] false, 5, 48, some (.agg [.int .i64 (.n 0), .int .i64 (.n 0), .int .i64 (.n 0), .int .i64 (.n 0), .str (.s [])])⟩)) (.n (.n (.e) (some (⟨.func, 1, 8, some (.nilfn)⟩)) (.e)) (some (⟨.func, 1, 8, some (.nilfn)⟩)) (.e)))) (some (⟨.int .u64, 1, 8, some (.int .u64 (.n 0))⟩)) (.n (.n (.n (.n (.e) (some (⟨.func, 1, 8, some (.nilfn)⟩)) (.e)) (some (⟨.func, 1, 8, some (.nilfn)⟩)) (.n (.e) (some (⟨.func, 1, 8, some (.nilfn)⟩)) (.e))) (some (⟨.func, 1, 8, some (.nilfn)⟩)) (.n (.n (.e) (some (⟨.ptr 187, 1, 8, some (.nilp)⟩)) (.e)) (some (⟨.int .u64, 1, 8, some (.int .u64 (.n 0))⟩)) (.n (.e) (some (⟨.int .i32, 1, 4, some (.int .i32 (.n 0))⟩)) (.e)))) (some (⟨.func, 1, 8, some (.nilfn)⟩)) (.n (.n (.n (.e) (some (⟨.ptr 230, 1, 8, some (.nilp)⟩)) (.e)) (some (⟨.struct [(4, 0, 1)] false, 1, 1, some (.agg [.bool (.t false)])⟩)) (.n (.e) (some (⟨.int .i32, 1, 4, some (.int .i32 (.n 0))⟩)) (.e))) (some (⟨.func, 1, 8, some (.nilfn)⟩)) (.n (.n (.e) (some (⟨.int .u16, 1, 2, some (.int .u16 (.n 0))⟩)) (.e)) (some (⟨.func, 1, 8, some (.nilfn)⟩)) (.e)))))) (some (⟨.int .i64, 1, 8, some (.int .i64 (.n 0))⟩)) (.n (.n (.n (.n (.n (.n (.e) (some (⟨.func, 1, 8, some (.nilfn)⟩)) (.e)) (some (⟨.iface, 1, 16, some (.niface)⟩)) (.n (.e) (some (⟨.func, 1, 8, some (.nilfn)⟩)) (.e))) (some (⟨.arr 3 2, 3, 24, some (.agg [.int .i64 (.n 0), .int .i64 (.n 0), .int .i64 (.n 0)])⟩)) (.n (.n (.e) (some (⟨.func, 1, 8, some (.nilfn)⟩)) (.e)) (some (⟨.struct [] true, 0, 0, some (.agg [])⟩)) (.n (.e) (some (⟨.func, 1, 8, some (.nilfn)⟩)) (.e)))) (some (⟨.struct [(17, 0, 1)] false, 1, 8, some (.agg [.nilp])⟩)) (.n (.n (.n (.e) (some (⟨.func, 1, 8, some (.nilfn)⟩)) (.e)) (some (⟨.func, 1, 8, some (.nilfn)⟩)) (.n (.e) (some (⟨.arr 64 5, 64, 64, some (.agg [.int .u8 (.n 0), .int .u8 (.n 0), .int .u8 (.n 0), .int .u8 (.n 0), .int .u8 (.n 0), .int .u8 (.n 0), .int .u8 (.n 0), .int .u8 (.n 0), .int .u8 (.n 0), .int .u8 (.n 0), .int .u8 (.n 0), .int .u8 (.n 0), .int .u8 (.n 0), .int .u8 (.n 0), .int .u8 (.n 0), .int .u8 (.n 0), .int .u8 (.n 0), .int .u8 (.n 0), .int .u8 (.n 0), .int .u8 (.n 0), .int .u8 (.n 0), .int .u8 (.n 0), .int .u8 (.n 0), .int .u8 (.n 0), .int .u8 (.n 0), .int .u8 (.n 0), .int .u8 (.n 0), .int .u8 (.n 0), .int .u8 (.n 0), .int .u8 (.n 0), .int .u8 (.n 0), .int .u8 (.n 0), .int .u8 (.n 0), .int .u8 (.n 0), .int .u8 (.n 0), .int .u8 (.n 0), .int .u8 (.n 0), .int .u8 (.n 0), .int .u8 (.n 0), .int .u8 (.n 0), .int .u8 (.n 0), .int .u8 (.n 0), .int .u8 (.n 0), .int .u8 (.n 0), .int .u8 (.n 0), .int .u8 (.n 0), .int .u8 (.n 0), .int .u8 (.n 0), .int .u8 (.n 0), .int .u8 (.n 0), .int .u8 (.n 0), .int .u8 (.n 0), .int .u8 (.n 0), .int .u8 (.n 0), .int .u8 (.n 0), .int .u8 (.n 0), .int .u8 (.n 0), .int .u8 (.n 0), .int .u8 (.n 0), .int .u8 (.n 0), .int .u8 (.n 0), .int .u8 (.n 0), .int .u8 (.n 0), .int .u8 (.n 0)])⟩)) (.e))) (some (⟨.struct [(49, 0, 1), (48, 1, 1)] false, 2, 48, some (.agg [.nils, .nils])⟩)) (.n (.n (.e) (some (⟨.arr 24 5, 24, 24, some (.agg [.int .u8 (.n 0), .int .u8 (.n 0), .int .u8 (.n 0), .int .u8 (.n 0), .int .u8 (.n 0), .int .u8 (.n 0), .int .u8 (.n 0), .int .u8 (.n 0), .int .u8 (.n 0), .int .u8 (.n 0), .int .u8 (.n 0), .int .u8 (.n 0), .int .u8 (.n 0), .int .u8 (.n 0), .int .u8 (.n 0), .int .u8 (.n 0), .int .u8 (.n 0), .int .u8 (.n 0), .int .u8 (.n 0), .int .u8 (.n 0), .int .u8 (.n 0), .int .u8 (.n 0), .int .u8 (.n 0), .int .u8 (.n 0)])⟩)) (.e)) (some (⟨.func, 1, 8, some (.nilfn)⟩)) (.e)))) (some (⟨.str, 1, 16, some (.str (.s []))⟩)) (.n (.n (.n (.n (.e) (some (⟨.func, 1, 8, some (.nilfn)⟩)) (.e)) (some (⟨.func, 1, 8, some (.nilfn)⟩)) (.n (.e) (some (⟨.arr 20 109, 20, 160, some (.agg [.int .u64 (.n 0), .int .u64 (.n 0), .int .u64 (.n 0), .int .u64 (.n 0), .int .u64 (.n 0), .int .u64 (.n 0), .int .u64 (.n 0), .int .u64 (.n 0), .int .u64 (.n 0), .int .u64 (.n 0), .int .u64 (.n 0), .int .u64 (.n 0), .int .u64 (.n 0), .int .u64 (.n 0), .int .u64 (.n 0), .int .u64 (.n 0), .int .u64 (.n 0), .int .u64 (.n 0), .int .u64 (.n 0), .int .u64 (.n 0)])⟩)) (.e))) (some (⟨.slice 43, 1, 24, some (.nils)⟩)) (.n (.n (.e) (some (⟨.struct [(3, 0, 1), (3, 1, 1)] true, 2, 16, some (.agg [.int .i64 (.n 0), .int .i64 (.n 0)])⟩)) (.e)) none (.n (.e) (some (⟨.struct [(220, 0, 1), (188, 1, 1), (188, 2, 1), (46, 3, 1), (46, 4, 1)] false, 5, 16, some (.agg [.int .i32 (.n 0), .int .u16 (.n 0), .int .u16 (.n 0), .int .u32 (.n 0), .int .u32 (.n 0)])⟩)) (.e)))) (some (⟨.slice 2, 1, 24, some (.nils)⟩)) (.n (.n (.n (.e) (some (⟨.struct [(17, 0, 1)] false, 1, 8, some (.agg [.nilp])⟩)) (.e)) (some (⟨.func, 1, 8, some (.nilfn)⟩)) (.n (.e) (some (⟨.int .u8, 1, 1, some (.int .u8 (.n 0))⟩)) (.e))) (some (⟨.func, 1, 8, some (.nilfn)⟩)) (.n (.n (.e) (some (⟨.struct [(184, 0, 1), (185, 1, 1), (3, 2, 1)] false, 3, 56, some (.agg [.nils, .nils, .int .i64 (.n 0)])⟩)) (.e)) none (.e))))) (some (⟨.int .u8, 1, 1, some (.int .u8 (.n 0))⟩)) (.n (.n (.n (.n (.n (.e) (some (⟨.int .u8, 1, 1, some (.int .u8 (.n 0))⟩)) (.e)) (some (⟨.ptr 73, 1, 8, some (.nilp)⟩)) (.n (.e) (some (⟨.func, 1, 8, some (.nilfn)⟩)) (.e))) (some (⟨.func, 1, 8, some (.nilfn)⟩)) (.n (.n (.e) (some (⟨.slice 57, 1, 24, some (.nils)⟩)) (.e)) (some (⟨.func, 1, 8, some (.nilfn)⟩)) (.n (.e) (some (⟨.struct [(9, 0, 1), (134, 1, 1)] false, 2, 24, some (.agg [.str (.s []), .int .u8 (.n 0)])⟩)) (.e)))) (some (⟨.slice 4, 1, 24, some (.nils)⟩)) (.n (.n (.n (.e) (some (⟨.map 149 3, 1, 8, some (.nilmap)⟩)) (.e)) (some (⟨.struct [(3, 0, 1), (84, 1, 1)] true, 2, 16, some (.agg [.int .i64 (.n 0), .int .i64 (.n 0)])⟩)) (.n (.e) (some (⟨.struct [(213, 0, 0)] false, 0, 0, some (.agg [])⟩)) (.e))) none (.n (.n (.e) (some (⟨.func, 1, 8, some (.nilfn)⟩)) (.e)) (some (⟨.struct [(117, 0, 1), (23, 1, 1)] false, 2, 32, some (.agg [.nilp, .nils])⟩)) (.e)))) (some (⟨.struct [(9, 0, 1), (12, 1, 1)] false, 2, 24, some (.agg [.str (.s []), .int .u64 (.n 0)])⟩)) (.n (.n (.n (.n (.e) (some (⟨.func, 1, 8, some (.nilfn)⟩)) (.e)) (some (⟨.func, 1, 8, some (.nilfn)⟩)) (.n (.e) (some (⟨.ptr 190, 1, 8, some (.nilp)⟩)) (.e))) (some (⟨.int .u32, 1, 4, some (.int .u32 (.n 0))⟩)) (.n (.n (.e) (some (⟨.func, 1, 8, some (.nilfn)⟩)) (.e)) (some (⟨.func, 1, 8, some (.nilfn)⟩)) (.n (.e) (some (⟨.struct [(220, 0, 1), (221, 1, 1), (236, 2, 1), (236, 3, 1)] false, 4, 16, some (.agg [.int .i32 (.n 0), .int .i32 (.n 0), .int .i32 (.n 0), .int .i32 (.n 0)])⟩)) (.e)))) (some (⟨.slice 35, 1, 24, some (.nils)⟩)) (.n (.n (.n (.e) (some (⟨.func, 1, 8, some (.nilfn)⟩)) (.e)) (some (⟨.struct [(9, 0, 1), (9, 1, 1)] false, 2, 32, some (.agg [.str (.s []), .str (.s [])])⟩)) (.n (.e) (some (⟨.struct [(12, 0, 1), (12, 1, 1), (46, 2, 1), (218, 3, 1), (5, 4, 1), (5, 5, 1), (134, 6, 1), (219, 7, 1), (153, 8, 1), (220, 9, 1), (221, 10, 1)] false, 11, 48, some (.agg [.int .u64 (.n 0), .int .u64 (.n 0), .int .u32 (.n 0), .int .u8 (.n 0), .int .u8 (.n 0), .int .u8 (.n 0), .int .u8 (.n 0), .nilfn, .nilp, .int .i32 (.n 0), .int .i32 (.n 0)])⟩)) (.e))) (some (⟨.func, 1, 8, some (.nilfn)⟩)) (.n (.n (.e) (some (⟨.struct [(188, 0, 1), (188, 1, 1), (188, 2, 1)] true, 3, 6, some (.agg [.int .u16 (.n 0), .int .u16 (.n 0), .int .u16 (.n 0)])⟩)) (.e)) none (.e)))))))
def fnTab : Tr Func := .n (.n (.n (.n (.n (.n (.n (.n (.e) (some (Tryd.f127)) (.e)) (some (Tryd.f63)) (.e)) (some (Tryd.f31)) (.n (.n (.e) none (.e)) none (.e))) (some (Tryd.f15)) (.n (.n (.n (.e) none (.e)) (some (Tryd.f79)) (.e)) (some (Tryd.f47)) (.n (.e) none (.e)))) (some (Tryd.f7)) (.n (.n (.n (.n (.e) (some (Tryd.f135)) (.e)) (some (Tryd.f71)) (.e)) (some (Tryd.f39)) (.n (.n (.e) none (.e)) (some (Tryd.f103)) (.e))) (some (Tryd.f23)) (.n (.n (.n (.e) none (.e)) (some (Tryd.f87)) (.e)) (some (Tryd.f55)) (.n (.e) none (.e))))) (some (Tryd.f3)) (.n (.n (.n (.n (.n (.e) (some (Tryd.f131)) (.e)) (some (Tryd.f67)) (.e)) (some (Tryd.f35)) (.n (.n (.e) none (.e)) (some (Tryd.f99)) (.e))) (some (Tryd.f19)) (.n (.n (.n (.e) none (.e)) (some (Tryd.f83)) (.e)) (some (Tryd.f51)) (.n (.e) none (.e)))) (some (Tryd.f11)) (.n (.n (.n (.n (.e) (some (Tryd.f139)) (.e)) (some (Tryd.f75)) (.e)) (some (Tryd.f43)) (.n (.e) none (.e))) (some (Tryd.f27)) (.n (.n (.n (.e) none (.e)) (some (Tryd.f91)) (.e)) none (.n (.e) none (.e)))))) none (.n (.n (.n (.n (.n (.n (.e) (some (Tryd.f129)) (.e)) (some (Tryd.f65)) (.e)) (some (Tryd.f33)) (.n (.n (.e) none (.e)) (some (Tryd.f97)) (.e))) (some (Tryd.f17)) (.n (.n (.n (.e) none (.e)) none (.e)) (some (Tryd.f49)) (.n (.e) none (.e)))) (some (Tryd.f9)) (.n (.n (.n (.n (.e) (some (Tryd.f137)) (.e)) (some (Tryd.f73)) (.e)) (some (Tryd.f41)) (.n (.n (.e) none (.e)) (some (Tryd.f105)) (.e))) (some (Tryd.f25)) (.n (.n (.n (.e) none (.e)) (some (Tryd.f89)) (.e)) (some (Tryd.f57)) (.n (.e) none (.e))))) (some (Tryd.f5)) (.n (.n (.n (.n (.n (.e) (some (Tryd.f133)) (.e)) (some (Tryd.f69)) (.e)) (some (Tryd.f37)) (.n (.n (.e) none (.e)) (some (Tryd.f101)) (.e))) (some (Tryd.f21)) (.n (.n (.n (.e) none (.e)) (some (Tryd.f85)) (.e)) (some (Tryd.f53)) (.n (.e) none (.e)))) (some (Tryd.f13)) (.n (.n (.n (.n (.e) (some (Tryd.f141)) (.e)) (some (Tryd.f77)) (.e)) (some (Tryd.f45)) (.n (.e) (some (Tryd.f109)) (.e))) (some (Tryd.f29)) (.n (.n (.n (.e) none (.e)) (some (Tryd.f93)) (.e)) none (.n (.e) none (.e))))))) none (.n (.n (.n (.n (.n (.n (.n (.e) none (.e)) (some (Tryd.f64)) (.e)) (some (Tryd.f32)) (.n (.n (.e) none (.e)) (some (Tryd.f96)) (.e))) (some (Tryd.f16)) (.n (.n (.n (.e) none (.e)) none (.e)) (some (Tryd.f48)) (.n (.e) none (.e)))) (some (Tryd.f8)) (.n (.n (.n (.n (.e) (some (Tryd.f136)) (.e)) (some (Tryd.f72)) (.e)) (some (Tryd.f40)) (.n (.n (.e) none (.e)) (some (Tryd.f104)) (.e))) (some (Tryd.f24)) (.n (.n (.n (.e) none (.e)) (some (Tryd.f88)) (.e)) (some (Tryd.f56)) (.n (.e) none (.e))))) (some (Tryd.f4)) (.n (.n (.n (.n (.n (.e) (some (Tryd.f132)) (.e)) (some (Tryd.f68)) (.e)) (some (Tryd.f36)) (.n (.n (.e) none (.e)) (some (Tryd.f100)) (.e))) (some (Tryd.f20)) (.n (.n (.n (.e) none (.e)) (some (Tryd.f84)) (.e)) (some (Tryd.f52)) (.n (.e) none (.e)))) (some (Tryd.f12)) (.n (.n (.n (.n (.e) (some (Tryd.f140)) (.e)) (some (Tryd.f76)) (.e)) (some (Tryd.f44)) (.n (.e) (some (Tryd.f108)) (.e))) (some (Tryd.f28)) (.n (.n (.n (.e) none (.e)) (some (Tryd.f92)) (.e)) none (.n (.e) none (.e)))))) (some (Tryd.f2)) (.n (.n (.n (.n (.n (.n (.e) none (.e)) (some (Tryd.f66)) (.e)) (some (Tryd.f34)) (.n (.n (.e) none (.e)) (some (Tryd.f98)) (.e))) (some (Tryd.f18)) (.n (.n (.n (.e) none (.e)) none (.e)) (some (Tryd.f50)) (.n (.e) none (.e)))) (some (Tryd.f10)) (.n (.n (.n (.n (.e) (some (Tryd.f138)) (.e)) (some (Tryd.f74)) (.e)) (some (Tryd.f42)) (.n (.n (.e) (some (Tryd.f170)) (.e)) (some (Tryd.f106)) (.e))) (some (Tryd.f26)) (.n (.n (.n (.e) none (.e)) (some (Tryd.f90)) (.e)) (some (Tryd.f58)) (.n (.e) none (.e))))) (some (Tryd.f6)) (.n (.n (.n (.n (.n (.e) (some (Tryd.f134)) (.e)) (some (Tryd.f70)) (.e)) (some (Tryd.f38)) (.n (.n (.e) none (.e)) (some (Tryd.f102)) (.e))) (some (Tryd.f22)) (.n (.n (.n (.e) none (.e)) (some (Tryd.f86)) (.e)) (some (Tryd.f54)) (.n (.e) none (.e)))) (some (Tryd.f14)) (.n (.n (.n (.n (.e) (some (Tryd.f142)) (.e)) (some (Tryd.f78)) (.e)) (some (Tryd.f46)) (.n (.e) none (.e))) (some (Tryd.f30)) (.n (.n (.n (.e) none (.e)) (some (Tryd.f94)) (.e)) (some (Tryd.f62)) (.n (.e) none (.e)))))))
theorem fnTab_all : fnTab.allP (FOk Tryd.prog) id := ⟨trivial, ⟨trivial, ⟨⟨Tryd.func3, rfl, by kernel_rfl⟩, ⟨⟨Tryd.func7, rfl, by kernel_rfl⟩, ⟨⟨Tryd.func15, rfl, by kernel_rfl⟩, ⟨⟨Tryd.func31, rfl, by kernel_rfl⟩, ⟨⟨Tryd.func63, rfl, by kernel_rfl⟩, ⟨⟨Tryd.func127, rfl, by kernel_rfl⟩, trivial, trivial⟩, trivial⟩, ⟨trivial, ⟨trivial, trivial, trivial⟩, trivial⟩⟩, ⟨⟨Tryd.func47, rfl, by kernel_rfl⟩, ⟨⟨Tryd.func79, rfl, by kernel_rfl⟩, ⟨trivial, trivial, trivial⟩, trivial⟩, ⟨trivial, trivial, trivial⟩⟩⟩, ⟨⟨Tryd.func23, rfl, by kernel_rfl⟩, ⟨⟨Tryd.func39, rfl, by kernel_rfl⟩, ⟨⟨Tryd.func71, rfl, by kernel_rfl⟩, ⟨⟨Tryd.func135, rfl, by kernel_rfl⟩, trivial, trivial⟩, trivial⟩, ⟨⟨Tryd.func103, rfl, by kernel_rfl⟩, ⟨trivial, trivial, trivial⟩, trivial⟩⟩, ⟨⟨Tryd.func55, rfl, by kernel_rfl⟩, ⟨⟨Tryd.func87, rfl, by kernel_rfl⟩, ⟨trivial, trivial, trivial⟩, trivial⟩, ⟨trivial, trivial, trivial⟩⟩⟩⟩, ⟨⟨Tryd.func11, rfl, by kernel_rfl⟩, ⟨⟨Tryd.func19, rfl, by kernel_rfl⟩, ⟨⟨Tryd.func35, rfl, by kernel_rfl⟩, ⟨⟨Tryd.func67, rfl, by kernel_rfl⟩, ⟨⟨Tryd.func131, rfl, by kernel_rfl⟩, trivial, trivial⟩, trivial⟩, ⟨⟨Tryd.func99, rfl, by kernel_rfl⟩, ⟨trivial, trivial, trivial⟩, trivial⟩⟩, ⟨⟨Tryd.func51, rfl, by kernel_rfl⟩, ⟨⟨Tryd.func83, rfl, by kernel_rfl⟩, ⟨trivial, trivial, trivial⟩, trivial⟩, ⟨trivial, trivial, trivial⟩⟩⟩, ⟨⟨Tryd.func27, rfl, by kernel_rfl⟩, ⟨⟨Tryd.func43, rfl, by kernel_rfl⟩, ⟨⟨Tryd.func75, rfl, by kernel_rfl⟩, ⟨⟨Tryd.func139, rfl, by kernel_rfl⟩, trivial, trivial⟩, trivial⟩, ⟨trivial, trivial, trivial⟩⟩, ⟨trivial, ⟨⟨Tryd.func91, rfl, by kernel_rfl⟩, ⟨trivial, trivial, trivial⟩, trivial⟩, ⟨trivial, trivial, trivial⟩⟩⟩⟩⟩, ⟨⟨Tryd.func5, rfl, by kernel_rfl⟩, ⟨⟨Tryd.func9, rfl, by kernel_rfl⟩, ⟨⟨Tryd.func17, rfl, by kernel_rfl⟩, ⟨⟨Tryd.func33, rfl, by kernel_rfl⟩, ⟨⟨Tryd.func65, rfl, by kernel_rfl⟩, ⟨⟨Tryd.func129, rfl, by kernel_rfl⟩, trivial, trivial⟩, trivial⟩, ⟨⟨Tryd.func97, rfl, by kernel_rfl⟩, ⟨trivial, trivial, trivial⟩, trivial⟩⟩, ⟨⟨Tryd.func49, rfl, by kernel_rfl⟩, ⟨trivial, ⟨trivial, trivial, trivial⟩, trivial⟩, ⟨trivial, trivial, trivial⟩⟩⟩, ⟨⟨Tryd.func25, rfl, by kernel_rfl⟩, ⟨⟨Tryd.func41, rfl, by kernel_rfl⟩, ⟨⟨Tryd.func73, rfl, by kernel_rfl⟩, ⟨⟨Tryd.func137, rfl, by kernel_rfl⟩, trivial, trivial⟩, trivial⟩, ⟨⟨Tryd.func105, rfl, by kernel_rfl⟩, ⟨trivial, trivial, trivial⟩, trivial⟩⟩, ⟨⟨Tryd.func57, rfl, by kernel_rfl⟩, ⟨⟨Tryd.func89, rfl, by kernel_rfl⟩, ⟨trivial, trivial, trivial⟩, trivial⟩, ⟨trivial, trivial, trivial⟩⟩⟩⟩, ⟨⟨Tryd.func13, rfl, by kernel_rfl⟩, ⟨⟨Tryd.func21, rfl, by kernel_rfl⟩, ⟨⟨Tryd.func37, rfl, by kernel_rfl⟩, ⟨⟨Tryd.func69, rfl, by kernel_rfl⟩, ⟨⟨Tryd.func133, rfl, by kernel_rfl⟩, trivial, trivial⟩, trivial⟩, ⟨⟨Tryd.func101, rfl, by kernel_rfl⟩, ⟨trivial, trivial, trivial⟩, trivial⟩⟩, ⟨⟨Tryd.func53, rfl, by kernel_rfl⟩, ⟨⟨Tryd.func85, rfl, by kernel_rfl⟩, ⟨trivial, trivial, trivial⟩, trivial⟩, ⟨trivial, trivial, trivial⟩⟩⟩, ⟨⟨Tryd.func29, rfl, by kernel_rfl⟩, ⟨⟨Tryd.func45, rfl, by kernel_rfl⟩, ⟨⟨Tryd.func77, rfl, by kernel_rfl⟩, ⟨⟨Tryd.func141, rfl, by kernel_rfl⟩, trivial, trivial⟩, trivial⟩, ⟨⟨Tryd.func109, rfl, by kernel_rfl⟩, trivial, trivial⟩⟩, ⟨trivial, ⟨⟨Tryd.func93, rfl, by kernel_rfl⟩, ⟨trivial, trivial, trivial⟩, trivial⟩, ⟨trivial, trivial, trivial⟩⟩⟩⟩⟩⟩, ⟨⟨Tryd.func2, rfl, by kernel_rfl⟩, ⟨⟨Tryd.func4, rfl, by kernel_rfl⟩, ⟨⟨Tryd.func8, rfl, by kernel_rfl⟩, ⟨⟨Tryd.func16, rfl, by kernel_rfl⟩, ⟨⟨Tryd.func32, rfl, by kernel_rfl⟩, ⟨⟨Tryd.func64, rfl, by kernel_rfl⟩, ⟨trivial, trivial, trivial⟩, trivial⟩, ⟨⟨Tryd.func96, rfl, by kernel_rfl⟩, ⟨trivial, trivial, trivial⟩, trivial⟩⟩, ⟨⟨Tryd.func48, rfl, by kernel_rfl⟩, ⟨trivial, ⟨trivial, trivial, trivial⟩, trivial⟩, ⟨trivial, trivial, trivial⟩⟩⟩, ⟨⟨Tryd.func24, rfl, by kernel_rfl⟩, ⟨⟨Tryd.func40, rfl, by kernel_rfl⟩, ⟨⟨Tryd.func72, rfl, by kernel_rfl⟩, ⟨⟨Tryd.func136, rfl, by kernel_rfl⟩, trivial, trivial⟩, trivial⟩, ⟨⟨Tryd.func104, rfl, by kernel_rfl⟩, ⟨trivial, trivial, trivial⟩, trivial⟩⟩, ⟨⟨Tryd.func56, rfl, by kernel_rfl⟩, ⟨⟨Tryd.func88, rfl, by kernel_rfl⟩, ⟨trivial, trivial, trivial⟩, trivial⟩, ⟨trivial, trivial, trivial⟩⟩⟩⟩, ⟨⟨Tryd.func12, rfl, by kernel_rfl⟩, ⟨⟨Tryd.func20, rfl, by kernel_rfl⟩, ⟨⟨Tryd.func36, rfl, by kernel_rfl⟩, ⟨⟨Tryd.func68, rfl, by kernel_rfl⟩, ⟨⟨Tryd.func132, rfl, by kernel_rfl⟩, trivial, trivial⟩, trivial⟩, ⟨⟨Tryd.func100, rfl, by kernel_rfl⟩, ⟨trivial, trivial, trivial⟩, trivial⟩⟩, ⟨⟨Tryd.func52, rfl, by kernel_rfl⟩, ⟨⟨Tryd.func84, rfl, by kernel_rfl⟩, ⟨trivial, trivial, trivial⟩, trivial⟩, ⟨trivial, trivial, trivial⟩⟩⟩, ⟨⟨Tryd.func28, rfl, by kernel_rfl⟩, ⟨⟨Tryd.func44, rfl, by kernel_rfl⟩, ⟨⟨Tryd.func76, rfl, by kernel_rfl⟩, ⟨⟨Tryd.func140, rfl, by kernel_rfl⟩, trivial, trivial⟩, trivial⟩, ⟨⟨Tryd.func108, rfl, by kernel_rfl⟩, trivial, trivial⟩⟩, ⟨trivial, ⟨⟨Tryd.func92, rfl, by kernel_rfl⟩, ⟨trivial, trivial, trivial⟩, trivial⟩, ⟨trivial, trivial, trivial⟩⟩⟩⟩⟩, ⟨⟨Tryd.func6, rfl, by kernel_rfl⟩, ⟨⟨Tryd.func10, rfl, by kernel_rfl⟩, ⟨⟨Tryd.func18, rfl, by kernel_rfl⟩, ⟨⟨Tryd.func34, rfl, by kernel_rfl⟩, ⟨⟨Tryd.func66, rfl, by kernel_rfl⟩, ⟨trivial, trivial, trivial⟩, trivial⟩, ⟨⟨Tryd.func98, rfl, by kernel_rfl⟩, ⟨trivial, trivial, trivial⟩, trivial⟩⟩, ⟨⟨Tryd.func50, rfl, by kernel_rfl⟩, ⟨trivial, ⟨trivial, trivial, trivial⟩, trivial⟩, ⟨trivial, trivial, trivial⟩⟩⟩, ⟨⟨Tryd.func26, rfl, by kernel_rfl⟩, ⟨⟨Tryd.func42, rfl, by kernel_rfl⟩, ⟨⟨Tryd.func74, rfl, by kernel_rfl⟩, ⟨⟨Tryd.func138, rfl, by kernel_rfl⟩, trivial, trivial⟩, trivial⟩, ⟨⟨Tryd.func106, rfl, by kernel_rfl⟩, ⟨⟨Tryd.func170, rfl, by kernel_rfl⟩, trivial, trivial⟩, trivial⟩⟩, ⟨⟨Tryd.func58, rfl, by kernel_rfl⟩, ⟨⟨Tryd.func90, rfl, by kernel_rfl⟩, ⟨trivial, trivial, trivial⟩, trivial⟩, ⟨trivial, trivial, trivial⟩⟩⟩⟩, ⟨⟨Tryd.func14, rfl, by kernel_rfl⟩, ⟨⟨Tryd.func22, rfl, by kernel_rfl⟩, ⟨⟨Tryd.func38, rfl, by kernel_rfl⟩, ⟨⟨Tryd.func70, rfl, by kernel_rfl⟩, ⟨⟨Tryd.func134, rfl, by kernel_rfl⟩, trivial, trivial⟩, trivial⟩, ⟨⟨Tryd.func102, rfl, by kernel_rfl⟩, ⟨trivial, trivial, trivial⟩, trivial⟩⟩, ⟨⟨Tryd.func54, rfl, by kernel_rfl⟩, ⟨⟨Tryd.func86, rfl, by kernel_rfl⟩, ⟨trivial, trivial, trivial⟩, trivial⟩, ⟨trivial, trivial, trivial⟩⟩⟩, ⟨⟨Tryd.func30, rfl, by kernel_rfl⟩, ⟨⟨Tryd.func46, rfl, by kernel_rfl⟩, ⟨⟨Tryd.func78, rfl, by kernel_rfl⟩, ⟨⟨Tryd.func142, rfl, by kernel_rfl⟩, trivial, trivial⟩, trivial⟩, ⟨trivial, trivial, trivial⟩⟩, ⟨⟨Tryd.func62, rfl, by kernel_rfl⟩, ⟨⟨Tryd.func94, rfl, by kernel_rfl⟩, ⟨trivial, trivial, trivial⟩, trivial⟩, ⟨trivial, trivial, trivial⟩⟩⟩⟩⟩⟩⟩
def mtTab : List (Nat × String × Nat) := [(70, "rung/fb.elapsed", 127), (70, "rung/fb.is", 132), (70, "rung/fb.pt", 139), (70, "rung/fb.rises", 137), (70, "rung/fb.set", 133), (70, "rung/fb.since", 140), (81, "Unwrap", 129), (92, "rung/fb.step", 131), (94, "rung/fb.step", 135), (96, "rung/fb.step", 136), (98, "rung/fb.step", 138), (99, "rung/fb.step", 141), (100, "rung/fb.step", 142), (117, "Grow", 79), (117, "String", 58), (117, "WriteString", 56), (117, "strings.copyCheck", 78), (117, "strings.grow", 96)]
def kpTab : Tr (Tr Nat) := .n (.n (.n (.n (.n (.n (.n (.n (.e) (some (.n (.n (.e) (some (4)) (.e)) (some (1)) (.e))) (.e)) (some (.n (.n (.e) (some (16)) (.e)) (some (3)) (.e))) (.e)) (some (.n (.n (.n (.n (.e) (some (12)) (.e)) (some (15032385538)) (.n (.e) (some (12)) (.e))) (some (268435458)) (.n (.n (.e) (some (192)) (.e)) (some (15032385586)) (.e))) (some (2)) (.n (.n (.n (.e) (some (15032385538)) (.e)) (some (32212254722)) (.n (.e) (some (12)) (.e))) (some (12)) (.n (.n (.e) (some (2251799813685440)) (.e)) (some (2214055641106)) (.e))))) (.n (.n (.e) none (.e)) none (.e))) (some (.n (.n (.n (.n (.e) (some (16)) (.e)) (some (16)) (.n (.e) (some (64)) (.e))) (some (35)) (.n (.n (.e) (some (352)) (.e)) (some (65536)) (.e))) (some (3)) (.n (.n (.n (.e) (some (97)) (.e)) (some (16419)) (.n (.e) (some (16)) (.e))) (some (4131)) (.n (.n (.e) (some (536871008)) (.e)) (some (16)) (.e))))) (.n (.n (.n (.e) none (.e)) (some (.n (.n (.n (.e) (some (2097155)) (.e)) (some (131)) (.e)) (some (3)) (.n (.n (.e) (some (0)) (.e)) (some (3)) (.e)))) (.e)) (some (.n (.n (.e) (some (16)) (.e)) (some (3)) (.e))) (.n (.e) none (.e)))) (some (.n (.n (.n (.n (.n (.e) (some (2019)) (.e)) (some (995)) (.e)) (some (32771)) (.n (.n (.e) (some (16)) (.e)) (some (2019)) (.e))) (some (4099)) (.n (.n (.n (.e) (some (5070602400912917605986812823523)) (.e)) (some (2147485667)) (.e)) (some (3)) (.n (.e) (some (36028797018965987)) (.e)))) (some (3)) (.n (.n (.n (.n (.e) (some (2019)) (.e)) (some (2019)) (.e)) (some (16)) (.n (.e) (some (2019)) (.e))) (some (16)) (.n (.n (.n (.e) (some (16)) (.e)) (some (2019)) (.e)) (some (99)) (.n (.e) (some (16)) (.e)))))) (.n (.n (.n (.n (.e) (some (.n (.n (.n (.e) (some (0)) (.e)) (some (66)) (.e)) (some (6)) (.n (.e) (some (0)) (.e)))) (.e)) (some (.n (.n (.n (.n (.e) (some (3670156)) (.e)) (some (3670156)) (.e)) (some (108)) (.n (.n (.e) (some (16)) (.e)) (some (3670668)) (.e))) (some (12)) (.n (.n (.n (.e) (some (140)) (.e)) (some (7864460)) (.e)) (some (236)) (.n (.e) (some (3670156)) (.e))))) (.e)) (some (.n (.n (.e) (some (4)) (.e)) (some (1)) (.e))) (.n (.n (.e) none (.e)) (some (.n (.n (.n (.n (.e) (some (16389)) (.e)) (some (5)) (.e)) (some (21)) (.n (.n (.e) (some (5)) (.e)) (some (5)) (.e))) (some (5)) (.n (.n (.n (.e) (some (5)) (.e)) (some (261)) (.e)) (some (1)) (.n (.n (.e) (some (4)) (.e)) (some (5)) (.e))))) (.e))) (some (.n (.n (.n (.n (.n (.n (.e) (some (396416)) (.e)) (some (1208962713102776599415963)) (.n (.e) (some (6392960)) (.e))) (some (35184377613467)) (.n (.n (.e) (some (1051776)) (.e)) (some (42535295865117307969815314076395736219)) (.e))) (some (3072)) (.n (.n (.n (.e) (some (12259964326927110866866776217202473468949912977470426240)) (.e)) (some (35976)) (.n (.e) (some (6392960)) (.e))) (some (1152921504612453531)) (.n (.n (.e) (some (31558786)) (.e)) (some (2854495385411919762116571938898990272765922432)) (.e)))) (some (5520539)) (.n (.n (.n (.n (.e) (some (11972621413014756705924586149611827390509546816507035)) (.e)) (some (3208)) (.n (.e) (some (6392960)) (.e))) (some (5524635)) (.n (.n (.e) (some (51422017416287688817342786954917203280710495801049370733939867)) (.e)) (some (2787593149816327892692001677569192612957339)) (.e))) (some (5508251)) (.n (.n (.n (.e) (some (25108406941546723055343157692830665664409421777856139136128)) (.e)) (some (649037107316890347054459465862299)) (.n (.e) (some (3208)) (.e))) (some (36893488147424709787)) (.n (.n (.e) (some (6392960)) (.e)) (some (2923003274661805836407369665432566039311865515136)) (.e))))) (some (5508251)) (.n (.n (.n (.n (.n (.e) (some (3208)) (.e)) (some (35976)) (.n (.e) (some (441711766194596082395824375185729628956870974218904739530401550354713728)) (.e))) (some (5524635)) (.n (.n (.e) (some (3208)) (.e)) (some (3208)) (.e))) (some (5508251)) (.n (.n (.n (.e) (some (1084544)) (.e)) (some (3208)) (.n (.e) (some (6294656)) (.e))) (some (5606555)) (.n (.n (.e) (some (215679573337205118357336120696157045389097155380324579848828913552514)) (.e)) (some (429184)) (.e)))) (some (4300487835)) (.n (.n (.n (.n (.e) (some (1674368)) (.e)) (some (19807040665459572545810697371)) (.n (.e) (some (1809251394333065553493296640760748560207343510400633813116524750123649043584)) (.e))) (some (5606555)) (.n (.n (.e) (some (6392962)) (.e)) (some (494720)) (.e))) (some (5524635)) (.n (.n (.n (.e) (some (1084544)) (.e)) (some (3208)) (.n (.e) (some (3072)) (.e))) (some (3208)) (.n (.n (.e) (some (6901746346790563787434755862277025452451108972170386555162524255358080)) (.e)) (some (429184)) (.e))))))) (.n (.n (.n (.e) none (.e)) (some (.n (.n (.n (.n (.n (.e) (some (4)) (.e)) (some (3593)) (.e)) (some (7689)) (.n (.e) (some (503316544)) (.e))) (some (9)) (.n (.n (.e) (some (65)) (.e)) (some (3593)) (.n (.e) (some (234881088)) (.e)))) (some (1)) (.n (.n (.n (.e) (some (3593)) (.e)) (some (3625)) (.n (.e) (some (234881344)) (.e))) (some (3593)) (.n (.n (.e) (some (234881088)) (.e)) (some (1052169)) (.n (.e) (some (234881088)) (.e)))))) (.e)) (some (.n (.n (.e) (some (16)) (.e)) (some (3)) (.e))) (.n (.e) none (.e))))) (some (.n (.n (.n (.n (.n (.n (.e) (some (33206656)) (.e)) (some (1927)) (.e)) (some (903)) (.n (.n (.e) (some (64)) (.e)) (some (8040832)) (.e))) (some (17179869191)) (.n (.n (.n (.e) (some (33206656)) (.e)) (some (520576)) (.e)) (some (1927)) (.n (.n (.e) (some (64)) (.e)) (some (33206656)) (.e)))) (some (67108871)) (.n (.n (.n (.n (.e) (some (33206656)) (.e)) (some (29056)) (.e)) (some (17592186046343)) (.n (.n (.e) (some (64)) (.e)) (some (40564819207303340847894519001472)) (.e))) (some (135)) (.n (.n (.n (.e) (some (29012352)) (.e)) (some (64)) (.e)) (some (288230376151715719)) (.n (.n (.e) (some (64)) (.e)) (some (33206656)) (.e))))) (some (7)) (.n (.n (.n (.n (.n (.e) (some (22300745198530623141535718272648361539187072)) (.e)) (some (4480)) (.e)) (some (1927)) (.n (.n (.e) (some (1766847064778384329583297500742918515827483896875618958121606201321632128)) (.e)) (some (16429440)) (.e))) (some (64)) (.n (.n (.n (.e) (some (365375409332725729550921208179070754914012148096)) (.e)) (some (2535301200456458802993406587264)) (.e)) (some (3975)) (.n (.n (.e) (some (16429440)) (.e)) (some (664613997892457936451903530173378944)) (.e)))) (some (64)) (.n (.n (.n (.n (.e) (some (713623846352979940529142984724747568224579968)) (.e)) (some (127360)) (.e)) (some (1927)) (.n (.n (.e) (some (7067388259113537318333190002971674063309935587502475832486424805199491456)) (.e)) (some (16429440)) (.e))) (some (391)) (.n (.n (.n (.e) (some (102844034832575377634685573909834406561420991602098741488300416)) (.e)) (some (3846528)) (.e)) (some (3975)) (.n (.e) (some (340282366920938463463374607431801418112)) (.e))))))) (.n (.n (.n (.n (.n (.e) (some (.n (.n (.n (.e) (some (0)) (.e)) (some (54)) (.e)) (some (6)) (.n (.e) (some (18)) (.e)))) (.e)) (some (.n (.n (.n (.n (.e) (some (16)) (.e)) (some (419)) (.e)) (some (387)) (.n (.e) (some (16)) (.e))) (some (3)) (.n (.n (.e) (some (65955)) (.e)) (some (899)) (.n (.e) (some (387)) (.e))))) (.e)) (some (.n (.n (.n (.n (.n (.e) (some (268435472)) (.e)) (some (12)) (.e)) (some (48)) (.n (.n (.e) (some (12)) (.e)) (some (12)) (.e))) (some (16)) (.n (.n (.n (.e) (some (4294967296)) (.e)) (some (12)) (.e)) (some (12)) (.n (.e) (some (8388624)) (.e)))) (some (1)) (.n (.n (.n (.n (.e) (some (12)) (.e)) (some (32784)) (.e)) (some (48)) (.n (.e) (some (8388624)) (.e))) (some (48)) (.n (.n (.n (.e) (some (12)) (.e)) (some (524304)) (.e)) (some (2064)) (.n (.e) (some (12)) (.e)))))) (.n (.n (.e) none (.e)) (some (.n (.n (.n (.e) (some (3)) (.e)) (some (67)) (.n (.e) (some (1)) (.e))) (some (3)) (.n (.n (.e) (some (65539)) (.e)) (some (3)) (.n (.e) (some (16)) (.e))))) (.e))) (some (.n (.n (.n (.n (.e) (some (1)) (.e)) (some (14)) (.e)) (some (2)) (.n (.e) (some (250)) (.e))) (some (0)) (.n (.n (.e) (some (62)) (.e)) (some (6)) (.n (.e) (some (1010)) (.e))))) (.n (.n (.n (.e) none (.e)) (some (.n (.n (.n (.n (.e) (some (16)) (.e)) (some (4294967395)) (.e)) (some (35)) (.n (.e) (some (130)) (.e))) (some (3)) (.n (.n (.n (.e) (some (16)) (.e)) (some (16)) (.e)) (some (99)) (.n (.e) (some (18014398509482114)) (.e))))) (.e)) (some (.n (.n (.n (.n (.n (.e) (some (8796093022732)) (.e)) (some (16)) (.n (.e) (some (19807040628566084398385988108)) (.e))) (some (1548)) (.n (.n (.e) (some (295147905179352826380)) (.e)) (some (16)) (.n (.e) (some (633825300114114700748351602700)) (.e)))) (some (524)) (.n (.n (.n (.e) (some (288230376151712268)) (.e)) (some (1073742348)) (.n (.e) (some (633825300114114700748351603212)) (.e))) (some (66060)) (.n (.n (.e) (some (19342813113834066795299340)) (.e)) (some (137438953996)) (.n (.e) (some (128)) (.e))))) (some (12)) (.n (.n (.n (.n (.e) (some (16)) (.e)) (some (1073742348)) (.n (.e) (some (16)) (.e))) (some (16)) (.n (.n (.e) (some (16)) (.e)) (some (137438953996)) (.n (.e) (some (16)) (.e)))) (some (1548)) (.n (.n (.n (.e) (some (16)) (.e)) (some (1073742348)) (.n (.e) (some (633825300114114700748351603212)) (.e))) (some (66060)) (.n (.n (.e) (some (16)) (.e)) (some (16)) (.n (.e) (some (16)) (.e))))))) (.n (.e) none (.e)))) (some (.n (.n (.n (.n (.n (.e) (some (16)) (.e)) (some (99)) (.e)) (some (3)) (.n (.e) (some (4398046511491)) (.e))) (some (1027)) (.n (.n (.e) (some (35)) (.e)) (some (99)) (.n (.e) (some (72057594037928323)) (.e)))) (some (3)) (.n (.n (.n (.e) (some (99)) (.e)) (some (35)) (.n (.e) (some (16)) (.e))) (some (16)) (.n (.n (.e) (some (387)) (.e)) (some (262243)) (.n (.e) (some (16)) (.e)))))) (.n (.n (.n (.n (.e) (some (.n (.n (.e) (some (4)) (.e)) (some (1)) (.e))) (.e)) (some (.n (.n (.e) (some (4)) (.e)) (some (1)) (.e))) (.e)) (some (.n (.n (.n (.n (.n (.e) (some (12)) (.e)) (some (12)) (.n (.e) (some (12)) (.e))) (some (12)) (.n (.n (.e) (some (12)) (.e)) (some (12)) (.e))) (some (20)) (.n (.n (.n (.e) (some (12)) (.e)) (some (12)) (.e)) (some (12)) (.n (.n (.e) (some (12)) (.e)) (some (12)) (.e)))) (some (5)) (.n (.n (.n (.n (.e) (some (67108884)) (.e)) (some (16404)) (.n (.e) (some (12)) (.e))) (some (276)) (.n (.n (.e) (some (4294967316)) (.e)) (some (1048596)) (.e))) (some (52)) (.n (.n (.n (.e) (some (536870932)) (.e)) (some (131092)) (.e)) (some (2068)) (.n (.n (.e) (some (34359738372)) (.e)) (some (8388628)) (.e)))))) (.n (.e) none (.e))) (some (.n (.n (.e) (some (48)) (.e)) (some (1)) (.n (.e) (some (12)) (.e)))) (.n (.n (.n (.e) none (.e)) (some (.n (.n (.n (.e) (some (4)) (.e)) (some (17)) (.e)) (some (1)) (.n (.e) (some (4)) (.e)))) (.e)) none (.n (.e) none (.e)))))) none (.n (.n (.n (.n (.n (.n (.e) (some (.n (.n (.e) (some (4)) (.e)) (some (1)) (.e))) (.e)) (some (.n (.n (.n (.n (.e) (some (192)) (.e)) (some (192)) (.n (.e) (some (4)) (.e))) (some (33)) (.n (.n (.e) (some (192)) (.e)) (some (192)) (.n (.e) (some (4)) (.e)))) (some (1)) (.n (.n (.n (.e) (some (192)) (.e)) (some (192)) (.n (.e) (some (4)) (.e))) (some (64)) (.n (.n (.e) (some (128)) (.e)) (some (192)) (.e))))) (.e)) (some (.n (.n (.n (.n (.e) (some (1864)) (.e)) (some (3912)) (.e)) (some (74)) (.n (.n (.e) (some (1864)) (.e)) (some (1896)) (.e))) (some (66)) (.n (.n (.n (.e) (some (1864)) (.e)) (some (1912)) (.e)) (some (1864)) (.n (.n (.e) (some (4)) (.e)) (some (4294969192)) (.e))))) (.n (.n (.e) none (.e)) (some (.n (.n (.n (.n (.n (.e) (some (915)) (.e)) (some (16)) (.e)) (some (3670035)) (.n (.n (.e) (some (1298074214633706907132624082305939)) (.e)) (some (16)) (.e))) (some (131091)) (.n (.n (.n (.e) (some (38685626227668133590599571)) (.e)) (some (16)) (.e)) (some (1572947)) (.n (.n (.e) (some (403)) (.e)) (some (403)) (.e)))) (some (19)) (.n (.n (.n (.n (.e) (some (1939)) (.e)) (some (137440526419)) (.e)) (some (1572915)) (.n (.n (.e) (some (403)) (.e)) (some (147)) (.e))) (some (1572883)) (.n (.n (.n (.e) (some (16)) (.e)) (some (1572883)) (.e)) (some (2149056595)) (.n (.n (.e) (some (16)) (.e)) (some (4611686018427388307)) (.e)))))) (.e))) (some (.n (.n (.e) (some (1)) (.e)) (some (0)) (.e))) (.n (.n (.n (.e) none (.e)) none (.e)) (some (.n (.n (.e) (some (16)) (.e)) (some (1)) (.n (.e) (some (4)) (.e)))) (.n (.e) none (.e)))) (some (.n (.n (.n (.n (.n (.e) (some (2251799813686019)) (.e)) (some (99)) (.e)) (some (3)) (.n (.n (.e) (some (16)) (.e)) (some (163)) (.e))) (some (2051)) (.n (.n (.n (.e) (some (1152921504606847745)) (.e)) (some (163)) (.e)) (some (99)) (.n (.e) (some (35)) (.e)))) (some (3)) (.n (.n (.n (.n (.e) (some (16)) (.e)) (some (99)) (.e)) (some (35)) (.n (.e) (some (163)) (.e))) (some (16)) (.n (.n (.n (.e) (some (16)) (.e)) (some (1073741987)) (.e)) (some (262243)) (.n (.e) (some (771)) (.e)))))) (.n (.n (.n (.n (.e) (some (.n (.n (.n (.e) (some (64)) (.e)) (some (135)) (.e)) (some (7)) (.n (.e) (some (131)) (.e)))) (.e)) (some (.n (.n (.n (.n (.e) (some (384)) (.e)) (some (97)) (.e)) (some (1027)) (.n (.n (.e) (some (384)) (.e)) (some (65)) (.e))) (some (3)) (.n (.n (.n (.e) (some (137438953856)) (.e)) (some (67108929)) (.e)) (some (3)) (.n (.n (.e) (some (16)) (.e)) (some (129)) (.e))))) (.e)) (some (.n (.n (.n (.n (.n (.e) (some (524320)) (.e)) (some (28)) (.e)) (some (96)) (.n (.n (.e) (some (28)) (.e)) (some (28)) (.e))) (some (32)) (.n (.n (.n (.e) (some (2097152)) (.e)) (some (28)) (.e)) (some (28)) (.n (.e) (some (65568)) (.e)))) (some (1)) (.n (.n (.n (.n (.e) (some (28)) (.e)) (some (4128)) (.e)) (some (96)) (.n (.e) (some (65568)) (.e))) (some (96)) (.n (.n (.n (.e) (some (28)) (.e)) (some (16416)) (.e)) (some (1056)) (.n (.e) (some (28)) (.e)))))) (.n (.n (.e) none (.e)) (some (.n (.n (.e) (some (4)) (.e)) (some (1)) (.e))) (.e))) (some (.n (.n (.n (.e) (some (12)) (.e)) (some (29)) (.n (.e) (some (12)) (.e))) (some (13)) (.n (.n (.e) (some (1052)) (.e)) (some (285)) (.n (.e) (some (12)) (.e))))) (.n (.n (.n (.e) none (.e)) (some (.n (.n (.n (.n (.e) (some (16)) (.e)) (some (12291)) (.e)) (some (1027)) (.n (.n (.e) (some (16)) (.e)) (some (12323)) (.e))) (some (3)) (.n (.n (.n (.e) (some (12291)) (.e)) (some (28675)) (.e)) (some (16)) (.n (.e) (some (16789507)) (.e))))) (.e)) (some (.n (.n (.n (.n (.n (.e) (some (3848290697379)) (.e)) (some (4194339)) (.n (.e) (some (64563604257983431938)) (.e))) (some (16)) (.n (.n (.e) (some (259)) (.e)) (some (3848290697251)) (.n (.e) (some (16)) (.e)))) (some (4099)) (.n (.n (.n (.e) (some (3848290697251)) (.e)) (some (35)) (.n (.e) (some (64563604257983430914)) (.e))) (some (16)) (.n (.n (.e) (some (64563604257983430914)) (.e)) (some (3848290697379)) (.e)))) (some (3)) (.n (.n (.n (.n (.e) (some (3848290697251)) (.e)) (some (536870947)) (.n (.e) (some (64563604257983431938)) (.e))) (some (32771)) (.n (.n (.e) (some (259)) (.e)) (some (8246337208355)) (.e))) (some (12291)) (.n (.n (.n (.e) (some (291)) (.e)) (some (35)) (.n (.e) (some (64563604257983430914)) (.e))) (some (35)) (.n (.n (.e) (some (138350580552821637378)) (.e)) (some (566798244118691)) (.e)))))) (.n (.e) none (.e))))) (some (.n (.n (.n (.n (.n (.e) (some (671744)) (.e)) (some (63642)) (.e)) (some (536871067)) (.n (.n (.e) (some (1024)) (.e)) (some (129178)) (.e))) (some (2097307)) (.n (.n (.n (.e) (some (671744)) (.e)) (some (2251799813814426)) (.e)) (some (2202)) (.n (.e) (some (4951760157141521099596644352)) (.e)))) (some (155)) (.n (.n (.n (.n (.e) (some (79228162514264337593544622080)) (.e)) (some (129178)) (.e)) (some (1024)) (.n (.n (.e) (some (1024)) (.e)) (some (454666)) (.e))) (some (1024)) (.n (.n (.n (.e) (some (324518553658426726783156021248000)) (.e)) (some (129178)) (.e)) (some (14490)) (.n (.e) (some (1024)) (.e)))))) (.n (.n (.n (.n (.n (.e) (some (.n (.e) (some (0)) (.e))) (.e)) (some (.n (.n (.e) (some (8)) (.e)) (some (1)) (.n (.e) (some (4)) (.e)))) (.e)) (some (.n (.n (.n (.e) (some (4)) (.e)) (some (8)) (.e)) (some (1)) (.n (.e) (some (4)) (.e)))) (.n (.n (.e) none (.e)) (some (.n (.n (.n (.n (.e) (some (6851)) (.e)) (some (451)) (.n (.e) (some (48)) (.e))) (some (67)) (.n (.n (.e) (some (12931)) (.e)) (some (1987)) (.e))) (some (3)) (.n (.n (.n (.e) (some (12995)) (.e)) (some (963)) (.e)) (some (195)) (.n (.n (.e) (some (19)) (.e)) (some (2755)) (.e))))) (.e))) (some (.n (.n (.e) (some (16)) (.e)) (some (2)) (.n (.e) (some (4)) (.e)))) (.n (.n (.n (.e) none (.e)) (some (.n (.n (.e) (some (16)) (.e)) (some (7)) (.e))) (.e)) (some (.n (.n (.e) (some (4)) (.e)) (some (1)) (.e))) (.n (.e) none (.e)))) (some (.n (.n (.n (.n (.e) (some (8404743)) (.e)) (some (1799)) (.n (.e) (some (18446744073709567751)) (.e))) (some (263)) (.n (.n (.e) (some (16135)) (.e)) (some (7943)) (.n (.e) (some (16135)) (.e)))) (some (7)) (.n (.n (.n (.e) (some (16135)) (.e)) (some (3847)) (.n (.e) (some (192)) (.e))) (some (775)) (.n (.n (.e) (some (16135)) (.e)) (some (16135)) (.n (.e) (some (192)) (.e)))))) (.n (.n (.n (.n (.e) (some (.n (.n (.n (.n (.e) (some (18014398509481986)) (.e)) (some (524306)) (.n (.e) (some (151115727451828646838274)) (.e))) (some (18)) (.n (.n (.e) (some (2)) (.e)) (some (68719476738)) (.e))) (some (2)) (.n (.n (.n (.e) (some (0)) (.e)) (some (0)) (.n (.e) (some (0)) (.e))) (some (18)) (.n (.n (.e) (some (2)) (.e)) (some (2)) (.e))))) (.e)) (some (.n (.n (.n (.n (.n (.e) (some (16)) (.e)) (some (97)) (.e)) (some (16)) (.n (.e) (some (160)) (.e))) (some (2051)) (.n (.n (.e) (some (161)) (.e)) (some (97)) (.n (.e) (some (16)) (.e)))) (some (3)) (.n (.n (.n (.e) (some (225)) (.e)) (some (33)) (.n (.e) (some (16)) (.e))) (some (131073)) (.n (.n (.e) (some (17179869344)) (.e)) (some (8388705)) (.n (.e) (some (512)) (.e)))))) (.e)) (some (.n (.n (.n (.n (.n (.n (.e) (some (512)) (.e)) (some (1537)) (.e)) (some (249)) (.n (.e) (some (7681)) (.e))) (some (57)) (.n (.n (.e) (some (5633)) (.e)) (some (121)) (.n (.e) (some (2475880078570760549798254081)) (.e)))) (some (9)) (.n (.n (.n (.e) (some (5633)) (.e)) (some (377)) (.n (.e) (some (5633)) (.e))) (some (65657)) (.n (.n (.e) (some (1152921504606854657)) (.e)) (some (4)) (.n (.e) (some (7681)) (.e))))) (some (1)) (.n (.n (.n (.n (.n (.e) (some (4)) (.e)) (some (1537)) (.e)) (some (249)) (.n (.e) (some (5633)) (.e))) (some (121)) (.n (.n (.e) (some (7681)) (.e)) (some (137438953481)) (.n (.e) (some (5633)) (.e)))) (some (25)) (.n (.n (.n (.e) (some (9007199254746625)) (.e)) (some (361)) (.n (.e) (some (5633)) (.e))) (some (121)) (.n (.n (.e) (some (73786976294838214145)) (.e)) (some (513)) (.n (.e) (some (316912650057057350374175804929)) (.e))))))) (.n (.e) (some (.n (.n (.n (.e) (some (4)) (.e)) (some (17)) (.e)) (some (1)) (.n (.e) (some (4)) (.e)))) (.e))) (some (.n (.n (.n (.e) (some (264142)) (.e)) (some (3854)) (.n (.e) (some (1806)) (.e))) (some (1806)) (.n (.n (.e) (some (1806)) (.e)) (some (1998)) (.e)))) (.n (.n (.n (.e) none (.e)) (some (.n (.n (.n (.n (.n (.e) (some (12305)) (.e)) (some (3347)) (.n (.e) (some (4113)) (.e))) (some (51)) (.n (.n (.e) (some (4113)) (.e)) (some (19)) (.e))) (some (1048595)) (.n (.n (.n (.e) (some (20497)) (.e)) (some (1043)) (.n (.e) (some (2923003274661805836407369665432566039311865090049)) (.e))) (some (851)) (.n (.n (.e) (some (69649)) (.e)) (some (633825300114114700748351606801)) (.e)))) (some (19)) (.n (.n (.n (.n (.e) (some (53265)) (.e)) (some (3091)) (.n (.e) (some (4113)) (.e))) (some (211)) (.n (.n (.e) (some (696898287454081973172991196020261297066001)) (.e)) (some (4113)) (.e))) (some (51)) (.n (.n (.n (.e) (some (4113)) (.e)) (some (19)) (.n (.e) (some (0)) (.e))) (some (3859)) (.n (.n (.e) (some (69649)) (.e)) (some (12305)) (.e)))))) (.e)) none (.n (.e) none (.e))))))) none (.n (.n (.n (.n (.n (.n (.n (.e) none (.e)) (some (.n (.n (.n (.n (.n (.e) (some (985162418487809)) (.e)) (some (8405219)) (.e)) (some (16483)) (.n (.n (.e) (some (985162418487809)) (.e)) (some (16483)) (.e))) (some (35)) (.n (.n (.n (.e) (some (985162418490881)) (.e)) (some (16483)) (.e)) (some (16867)) (.n (.e) (some (33)) (.e)))) (some (3)) (.n (.n (.n (.n (.e) (some (2111062325330433)) (.e)) (some (16483)) (.e)) (some (114787)) (.n (.n (.e) (some (16)) (.e)) (some (68719476833)) (.e))) (some (99)) (.n (.n (.n (.e) (some (985162418487809)) (.e)) (some (8589951203)) (.e)) (some (2113763)) (.n (.e) (some (545)) (.e)))))) (.e)) (some (.n (.n (.n (.n (.e) (some (16)) (.e)) (some (35)) (.e)) (some (1027)) (.n (.e) (some (35)) (.e))) (some (3)) (.n (.n (.n (.e) (some (16)) (.e)) (some (16419)) (.e)) (some (16)) (.n (.e) (some (33554467)) (.e))))) (.n (.n (.e) none (.e)) (some (.n (.n (.e) (some (17)) (.e)) (some (17)) (.n (.e) (some (0)) (.e)))) (.e))) (some (.n (.n (.n (.n (.n (.e) (some (576544)) (.e)) (some (1649267571754)) (.e)) (some (3072)) (.n (.n (.e) (some (64563604257983990816)) (.e)) (some (1649267571754)) (.e))) (some (7354)) (.n (.n (.n (.e) (some (138350580552822197280)) (.e)) (some (1649267964970)) (.e)) (some (64682)) (.n (.n (.e) (some (3072)) (.e)) (some (56352)) (.e)))) (some (3258)) (.n (.n (.n (.n (.e) (some (64563604257983990816)) (.e)) (some (3848290827306)) (.e)) (some (31930)) (.n (.n (.e) (some (64563604257983990816)) (.e)) (some (121896)) (.e))) (some (33561786)) (.n (.n (.n (.e) (some (64563604257986087968)) (.e)) (some (1649267571754)) (.e)) (some (130218)) (.n (.e) (some (52256)) (.e)))))) (.n (.n (.n (.e) none (.e)) none (.e)) (some (.n (.n (.e) (some (4)) (.e)) (some (1)) (.e))) (.n (.e) none (.e)))) (some (.n (.n (.n (.n (.n (.e) (some (16)) (.e)) (some (99)) (.e)) (some (3)) (.n (.e) (some (140737488355491)) (.e))) (some (2051)) (.n (.n (.e) (some (35)) (.e)) (some (99)) (.n (.e) (some (163)) (.e)))) (some (3)) (.n (.n (.n (.e) (some (99)) (.e)) (some (35)) (.n (.e) (some (163)) (.e))) (some (16)) (.n (.n (.e) (some (163)) (.e)) (some (134217827)) (.n (.e) (some (771)) (.e)))))) (.n (.n (.n (.n (.e) (some (.n (.n (.n (.n (.n (.e) (some (22)) (.e)) (some (950)) (.n (.e) (some (2070)) (.e))) (some (118)) (.n (.n (.e) (some (3094)) (.e)) (some (22)) (.e))) (some (22)) (.n (.n (.n (.e) (some (3094)) (.e)) (some (22)) (.n (.e) (some (0)) (.e))) (some (118)) (.n (.n (.e) (some (3094)) (.e)) (some (22)) (.e)))) (some (6)) (.n (.n (.n (.n (.e) (some (22)) (.e)) (some (8796093023158)) (.n (.e) (some (20282409603651670423947251288082)) (.e))) (some (268435574)) (.n (.n (.e) (some (309485009821345068724784150)) (.e)) (some (288230376151712694)) (.e))) (some (54)) (.n (.n (.n (.e) (some (38685626227668133590600726)) (.e)) (some (281474976711606)) (.e)) (some (182)) (.n (.n (.e) (some (2475880078570760549798251542)) (.e)) (some (295147905179352826134)) (.e)))))) (.e)) (some (.n (.n (.n (.n (.n (.n (.e) (some (2199023255616)) (.e)) (some (8388672)) (.e)) (some (262208)) (.n (.e) (some (4294967360)) (.e))) (some (28)) (.n (.n (.n (.e) (some (28)) (.e)) (some (1073741888)) (.e)) (some (28)) (.n (.e) (some (28)) (.e)))) (some (94)) (.n (.n (.n (.n (.e) (some (2199023255552)) (.e)) (some (8388672)) (.e)) (some (262208)) (.n (.e) (some (28)) (.e))) (some (32832)) (.n (.n (.e) (some (4294967360)) (.e)) (some (8388672)) (.n (.e) (some (28)) (.e))))) (some (30)) (.n (.n (.n (.n (.n (.e) (some (2199023255616)) (.e)) (some (8388672)) (.e)) (some (262208)) (.n (.e) (some (4294967360)) (.e))) (some (32832)) (.n (.n (.e) (some (28)) (.e)) (some (8388672)) (.n (.e) (some (549755813952)) (.e)))) (some (222)) (.n (.n (.n (.n (.e) (some (28)) (.e)) (some (28)) (.e)) (some (262208)) (.n (.e) (some (137438953536)) (.e))) (some (28)) (.n (.n (.e) (some (4294967360)) (.e)) (some (8388672)) (.n (.e) (some (2199023255616)) (.e))))))) (.e)) (some (.n (.n (.e) (some (4)) (.e)) (some (1)) (.e))) (.n (.n (.e) none (.e)) (some (.n (.n (.n (.e) (some (4)) (.e)) (some (8)) (.e)) (some (1)) (.n (.e) (some (4)) (.e)))) (.e))) (some (.n (.n (.n (.e) (some (4)) (.e)) (some (33)) (.e)) (some (1)) (.n (.e) (some (4)) (.e)))) (.n (.n (.n (.e) none (.e)) (some (.n (.n (.e) (some (32)) (.e)) (some (1)) (.n (.e) (some (4)) (.e)))) (.e)) (some (.n (.n (.n (.e) (some (48)) (.e)) (some (3)) (.e)) (some (3)) (.n (.e) (some (2)) (.e)))) (.n (.e) none (.e))))) (some (.n (.n (.n (.n (.n (.n (.e) (some (1329227995784915872903807060280507910)) (.e)) (some (130566)) (.e)) (some (1542)) (.n (.e) (some (56838)) (.e))) (some (4194319)) (.n (.n (.n (.e) (some (256)) (.e)) (some (130566)) (.e)) (some (32262)) (.n (.e) (some (56838)) (.e)))) (some (524303)) (.n (.n (.n (.n (.e) (some (1393796574908163946345982392040522594156038)) (.e)) (some (130566)) (.e)) (some (7686)) (.n (.e) (some (56838)) (.e))) (some (526)) (.n (.n (.e) (some (56838)) (.e)) (some (32262)) (.n (.e) (some (32262)) (.e))))) (some (15)) (.n (.n (.n (.n (.n (.e) (some (163334)) (.e)) (some (8796093152774)) (.e)) (some (3590)) (.n (.e) (some (4722366482869645278726)) (.e))) (some (256)) (.n (.n (.e) (some (36028797019028998)) (.e)) (some (137438985734)) (.n (.e) (some (65030)) (.e)))) (some (256)) (.n (.n (.n (.n (.e) (some (256)) (.e)) (some (2251799813815814)) (.e)) (some (15878)) (.n (.e) (some (618970019642690137449618950)) (.e))) (some (526)) (.n (.n (.e) (some (36893488147419168262)) (.e)) (some (65030)) (.n (.e) (some (163334)) (.e))))))) (.n (.n (.n (.n (.n (.e) (some (.n (.n (.e) (some (16)) (.e)) (some (3)) (.e))) (.e)) (some (.n (.n (.n (.e) (some (108)) (.e)) (some (1073741836)) (.e)) (some (12)) (.n (.n (.e) (some (16)) (.e)) (some (16)) (.e)))) (.e)) (some (.n (.n (.n (.e) (some (16)) (.e)) (some (33)) (.e)) (some (3)) (.n (.e) (some (32)) (.e)))) (.n (.n (.e) none (.e)) (some (.n (.n (.e) (some (64)) (.e)) (some (3)) (.n (.e) (some (48)) (.e)))) (.e))) (some (.n (.n (.n (.e) (some (29)) (.e)) (some (77)) (.n (.e) (some (12)) (.e))) (some (13)) (.n (.n (.e) (some (16412)) (.e)) (some (12)) (.n (.e) (some (12)) (.e))))) (.n (.n (.n (.e) none (.e)) (some (.n (.n (.n (.e) (some (12)) (.e)) (some (60)) (.n (.e) (some (12)) (.e))) (some (13)) (.n (.n (.e) (some (16412)) (.e)) (some (2076)) (.n (.e) (some (12)) (.e))))) (.e)) (some (.n (.n (.n (.n (.n (.n (.e) (some (12)) (.e)) (some (510)) (.e)) (some (1022)) (.n (.e) (some (9527906273786276976974489008089509993470)) (.e))) (some (126)) (.n (.n (.e) (some (21267647932558653966460912964485537790)) (.e)) (some (1022)) (.n (.e) (some (91343861861087706174007279019256696818005842942)) (.e)))) (some (30)) (.n (.n (.n (.e) (some (40564819207303340847894502596606)) (.e)) (some (288230376151712766)) (.n (.e) (some (9527906273786276976974489008089509927934)) (.e))) (some (510)) (.n (.n (.e) (some (9527906273786276976974489008089509927934)) (.e)) (some (8190)) (.n (.e) (some (9527906273786276976974489008089509927934)) (.e))))) (some (14)) (.n (.n (.n (.n (.e) (some (24574)) (.e)) (some (1022)) (.n (.e) (some (1403324481181950223322956881048612104117246)) (.e))) (some (254)) (.n (.n (.e) (some (23550)) (.e)) (some (2046)) (.n (.e) (some (9527906273786276976974489008089510059006)) (.e)))) (some (62)) (.n (.n (.n (.e) (some (24574)) (.e)) (some (1022)) (.n (.e) (some (9527906273786276976974489008089510059006)) (.e))) (some (2147484158)) (.n (.n (.e) (some (20416942015256307807802476445906092694526)) (.e)) (some (9903520314283042199193001982)) (.n (.e) (some (9527906273786276976974489008089509927934)) (.e))))))) (.n (.e) none (.e)))) (some (.n (.n (.n (.e) (some (106)) (.e)) (some (6)) (.n (.e) (some (1)) (.e))) (some (0)) (.n (.n (.e) (some (170)) (.e)) (some (10)) (.e)))) (.n (.n (.n (.n (.e) (some (.n (.n (.e) (some (4)) (.e)) (some (5)) (.e))) (.e)) (some (.n (.n (.n (.n (.e) (some (16)) (.e)) (some (419)) (.e)) (some (387)) (.n (.e) (some (16)) (.e))) (some (3)) (.n (.n (.e) (some (65955)) (.e)) (some (899)) (.n (.e) (some (387)) (.e))))) (.e)) (some (.n (.n (.n (.e) (some (4)) (.e)) (some (8)) (.e)) (some (1)) (.n (.e) (some (4)) (.e)))) (.n (.e) (some (.n (.n (.n (.e) (some (4)) (.e)) (some (17)) (.e)) (some (1)) (.n (.e) (some (4)) (.e)))) (.e))) (some (.n (.n (.n (.n (.e) (some (33554562)) (.e)) (some (16)) (.e)) (some (99)) (.n (.n (.e) (some (16)) (.e)) (some (16)) (.e))) (some (3)) (.n (.n (.n (.e) (some (16)) (.e)) (some (65570)) (.e)) (some (16419)) (.n (.e) (some (162)) (.e))))) (.n (.n (.n (.e) none (.e)) (some (.n (.n (.e) (some (9)) (.e)) (some (1)) (.n (.e) (some (4)) (.e)))) (.e)) none (.n (.e) none (.e)))))) (some (.n (.e) (some (0)) (.e))) (.n (.n (.n (.n (.n (.n (.e) none (.e)) (some (.n (.n (.e) (some (8)) (.e)) (some (1)) (.n (.e) (some (4)) (.e)))) (.e)) (some (.n (.n (.n (.n (.e) (some (8388707)) (.e)) (some (2051)) (.n (.e) (some (163)) (.e))) (some (515)) (.n (.n (.e) (some (163)) (.e)) (some (35)) (.e))) (some (3)) (.n (.n (.n (.e) (some (99)) (.e)) (some (3)) (.n (.e) (some (16)) (.e))) (some (16)) (.n (.n (.e) (some (34359738531)) (.e)) (some (99)) (.e))))) (.n (.n (.e) none (.e)) (some (.n (.n (.n (.n (.n (.e) (some (899)) (.e)) (some (16)) (.e)) (some (229395)) (.n (.n (.e) (some (39614081257132168796771976067)) (.e)) (some (16)) (.e))) (some (8211)) (.n (.n (.n (.e) (some (302231454903657293678467)) (.e)) (some (16)) (.e)) (some (98387)) (.n (.n (.e) (some (387)) (.e)) (some (387)) (.e)))) (some (19)) (.n (.n (.n (.n (.e) (some (1923)) (.e)) (some (8590032979)) (.e)) (some (98355)) (.n (.n (.e) (some (387)) (.e)) (some (131)) (.e))) (some (98323)) (.n (.n (.n (.e) (some (16)) (.e)) (some (98323)) (.e)) (some (134316115)) (.n (.n (.e) (some (16)) (.e)) (some (288230376151712131)) (.e)))))) (.e))) (some (.n (.n (.n (.n (.e) (some (16)) (.e)) (some (35)) (.e)) (some (1027)) (.n (.e) (some (35)) (.e))) (some (3)) (.n (.n (.n (.e) (some (16)) (.e)) (some (16419)) (.e)) (some (16)) (.n (.e) (some (33554467)) (.e))))) (.n (.n (.n (.e) none (.e)) none (.e)) (some (.n (.n (.e) (some (4)) (.e)) (some (1)) (.e))) (.n (.e) none (.e)))) (some (.n (.n (.n (.n (.n (.e) (some (1415)) (.e)) (some (391)) (.n (.e) (some (64)) (.e))) (some (7)) (.n (.n (.e) (some (131)) (.e)) (some (903)) (.e))) (some (16391)) (.n (.n (.n (.e) (some (391)) (.e)) (some (268436359)) (.e)) (some (391)) (.n (.n (.e) (some (6147)) (.e)) (some (1415)) (.e)))) (some (7)) (.n (.n (.n (.n (.e) (some (1415)) (.e)) (some (903)) (.n (.e) (some (64)) (.e))) (some (135)) (.n (.n (.e) (some (131)) (.e)) (some (391)) (.e))) (some (64)) (.n (.n (.n (.e) (some (281474976711043)) (.e)) (some (903)) (.e)) (some (391)) (.n (.n (.e) (some (36893488147419109379)) (.e)) (some (2199023256967)) (.e)))))) (.n (.n (.n (.n (.e) (some (.n (.n (.n (.n (.e) (some (0)) (.e)) (some (2)) (.e)) (some (34)) (.n (.n (.e) (some (0)) (.e)) (some (0)) (.e))) (some (2)) (.n (.n (.n (.e) (some (9223372036854775810)) (.e)) (some (2)) (.e)) (some (2)) (.n (.e) (some (8796093022210)) (.e))))) (.e)) (some (.n (.n (.e) (some (0)) (.e)) (some (515)) (.e))) (.e)) (some (.n (.n (.n (.n (.e) (some (3618)) (.e)) (some (7714)) (.e)) (some (35)) (.n (.e) (some (528034)) (.e))) (some (3)) (.n (.n (.n (.e) (some (16)) (.e)) (some (3810)) (.e)) (some (3618)) (.n (.e) (some (3618)) (.e))))) (.n (.n (.e) (some (.n (.n (.n (.e) (some (0)) (.e)) (some (0)) (.n (.e) (some (0)) (.e))) (some (0)) (.n (.n (.e) (some (0)) (.e)) (some (0)) (.n (.e) (some (0)) (.e))))) (.e)) (some (.n (.n (.e) (some (4)) (.e)) (some (1)) (.n (.e) (some (4)) (.e)))) (.e))) (some (.n (.n (.n (.n (.n (.e) (some (4)) (.e)) (some (4)) (.e)) (some (4)) (.n (.n (.e) (some (4)) (.e)) (some (4)) (.e))) (some (8)) (.n (.n (.n (.e) (some (4)) (.e)) (some (4)) (.e)) (some (4)) (.n (.n (.e) (some (4)) (.e)) (some (4)) (.e)))) (some (1)) (.n (.n (.n (.n (.e) (some (4294967304)) (.e)) (some (65544)) (.e)) (some (264)) (.n (.n (.e) (some (1099511627776)) (.e)) (some (16777224)) (.e))) (some (24)) (.n (.n (.n (.e) (some (68719476744)) (.e)) (some (1048584)) (.e)) (some (4104)) (.n (.n (.e) (some (4)) (.e)) (some (268435464)) (.e)))))) (.n (.n (.n (.e) none (.e)) (some (.n (.n (.n (.e) (some (768)) (.e)) (some (192)) (.e)) (some (3)) (.n (.n (.e) (some (48)) (.e)) (some (48)) (.e)))) (.e)) (some (.n (.n (.e) (some (4)) (.e)) (some (5)) (.e))) (.n (.e) none (.e))))) (some (.n (.n (.n (.n (.n (.n (.e) (some (64)) (.e)) (some (274877939587)) (.e)) (some (387)) (.n (.e) (some (16259)) (.e))) (some (2097159)) (.n (.n (.e) (some (114563)) (.e)) (some (4294975363)) (.n (.e) (some (16259)) (.e)))) (some (262151)) (.n (.n (.n (.e) (some (70368744210307)) (.e)) (some (3971)) (.n (.e) (some (16259)) (.e))) (some (7)) (.n (.n (.e) (some (16259)) (.e)) (some (16259)) (.n (.e) (some (8067)) (.e))))) (some (7)) (.n (.n (.n (.n (.n (.e) (some (64)) (.e)) (some (32643)) (.e)) (some (899)) (.n (.e) (some (2417851639229258349526915)) (.e))) (some (64)) (.n (.n (.e) (some (295147905179352940419)) (.e)) (some (8067)) (.n (.e) (some (16259)) (.e)))) (some (64)) (.n (.n (.n (.e) (some (32643)) (.e)) (some (8067)) (.n (.e) (some (1237940039285380274899140483)) (.e))) (some (131)) (.n (.n (.e) (some (18889465931478580969347)) (.e)) (some (32643)) (.n (.e) (some (22300745198530623141535718272648361505988483)) (.e))))))) (.n (.n (.n (.n (.n (.e) (some (.n (.n (.n (.e) (some (4)) (.e)) (some (8)) (.e)) (some (1)) (.n (.e) (some (4)) (.e)))) (.e)) (some (.n (.n (.e) (some (16)) (.e)) (some (3)) (.e))) (.e)) (some (.n (.n (.n (.n (.n (.n (.e) (some (45574)) (.e)) (some (147573953139432485414)) (.e)) (some (12838)) (.n (.e) (some (61954)) (.e))) (some (258599)) (.n (.n (.n (.e) (some (5316911983139663491615228241121440258)) (.e)) (some (45606)) (.e)) (some (288230376151724582)) (.n (.e) (some (158456325028528675187087946278)) (.e)))) (some (61991)) (.n (.n (.n (.n (.e) (some (20769187434139310514121985316942338)) (.e)) (some (61954)) (.e)) (some (61954)) (.n (.e) (some (61954)) (.e))) (some (1649267700262)) (.n (.n (.n (.e) (some (61952)) (.e)) (some (151115727451828646900262)) (.e)) (some (4611686018427400742)) (.n (.e) (some (61990)) (.e))))) (some (62007)) (.n (.n (.n (.n (.n (.e) (some (61954)) (.e)) (some (590295810358705828390)) (.e)) (some (45574)) (.n (.e) (some (309485009821345068724843010)) (.e))) (some (549756072486)) (.n (.n (.n (.e) (some (61954)) (.e)) (some (61990)) (.e)) (some (61954)) (.n (.e) (some (45606)) (.e)))) (some (127527)) (.n (.n (.n (.n (.e) (some (61954)) (.e)) (some (2361183241434822652454)) (.e)) (some (61954)) (.n (.e) (some (1237940039285380274899251750)) (.e))) (some (4398046523942)) (.n (.n (.n (.e) (some (12288)) (.e)) (some (45574)) (.e)) (some (61954)) (.n (.e) (some (10141204801825835211973625704998)) (.e))))))) (.n (.n (.e) none (.e)) (some (.n (.n (.e) (some (4)) (.e)) (some (1)) (.e))) (.e))) (some (.n (.e) (some (0)) (.e))) (.n (.n (.n (.e) none (.e)) (some (.n (.n (.n (.n (.e) (some (16)) (.e)) (some (419)) (.e)) (some (387)) (.n (.e) (some (16)) (.e))) (some (3)) (.n (.n (.e) (some (65955)) (.e)) (some (899)) (.n (.e) (some (387)) (.e))))) (.e)) (some (.n (.n (.n (.e) (some (40)) (.e)) (some (9)) (.n (.e) (some (4)) (.e))) (some (1)) (.n (.n (.e) (some (4136)) (.e)) (some (25)) (.n (.e) (some (4)) (.e))))) (.n (.e) none (.e)))) (some (.n (.n (.n (.e) (some (1)) (.e)) (some (3)) (.e)) (some (3)) (.n (.n (.e) (some (16)) (.e)) (some (515)) (.e)))) (.n (.n (.n (.n (.e) (some (.n (.n (.n (.n (.e) (some (4503599627370498)) (.e)) (some (2)) (.n (.e) (some (0)) (.e))) (some (18)) (.n (.n (.e) (some (2)) (.e)) (some (2)) (.e))) (some (2)) (.n (.n (.n (.e) (some (2)) (.e)) (some (8589934594)) (.e)) (some (32770)) (.n (.n (.e) (some (2361183241434822606850)) (.e)) (some (2)) (.e))))) (.e)) (some (.n (.n (.e) (some (0)) (.e)) (some (65)) (.n (.e) (some (524288)) (.e)))) (.e)) (some (.n (.n (.n (.e) (some (9)) (.e)) (some (9)) (.n (.e) (some (4)) (.e))) (some (1)) (.n (.n (.e) (some (32777)) (.e)) (some (521)) (.n (.e) (some (4)) (.e))))) (.n (.e) none (.e))) (some (.n (.n (.n (.n (.e) (some (16)) (.e)) (some (770)) (.e)) (some (98)) (.n (.e) (some (770)) (.e))) (some (3)) (.n (.n (.n (.e) (some (16)) (.e)) (some (33555202)) (.e)) (some (258)) (.n (.e) (some (8589935362)) (.e))))) (.n (.n (.n (.e) none (.e)) (some (.n (.n (.n (.n (.n (.e) (some (15387)) (.e)) (some (17179884575)) (.n (.e) (some (15387)) (.e))) (some (7199)) (.n (.n (.e) (some (146459)) (.e)) (some (70368744307739)) (.n (.e) (some (15377)) (.e)))) (some (268438559)) (.n (.n (.n (.e) (some (146459)) (.e)) (some (64543)) (.n (.e) (some (618970019642690137449577489)) (.e))) (some (1073757215)) (.n (.n (.e) (some (408601)) (.e)) (some (130075)) (.n (.e) (some (3072)) (.e))))) (some (3103)) (.n (.n (.n (.n (.e) (some (15385)) (.e)) (some (31775)) (.n (.e) (some (15385)) (.e))) (some (15391)) (.n (.n (.e) (some (408603)) (.e)) (some (130075)) (.n (.e) (some (19807040628566084398386002945)) (.e)))) (some (3103)) (.n (.n (.n (.e) (some (295147905179352972315)) (.e)) (some (130075)) (.n (.e) (some (15377)) (.e))) (some (15391)) (.n (.n (.e) (some (146459)) (.e)) (some (130075)) (.n (.e) (some (3072)) (.e))))))) (.e)) (some (.n (.n (.n (.n (.n (.e) (some (105621835743306)) (.e)) (some (68719476810)) (.n (.e) (some (1970324836974666)) (.e))) (some (256)) (.n (.n (.e) (some (1970324836991050)) (.e)) (some (2122)) (.e))) (some (524363)) (.n (.n (.n (.e) (some (1970324836974666)) (.e)) (some (256)) (.e)) (some (34359738443)) (.n (.n (.e) (some (1154891829443821642)) (.e)) (some (8796093022283)) (.e)))) (some (75)) (.n (.n (.n (.n (.e) (some (4170)) (.e)) (some (0)) (.n (.e) (some (256)) (.e))) (some (1611)) (.n (.n (.e) (some (37999121855955018)) (.e)) (some (75)) (.e))) (some (0)) (.n (.n (.n (.e) (some (4222124650659914)) (.e)) (some (893353197642)) (.e)) (some (256)) (.n (.n (.e) (some (256)) (.e)) (some (256)) (.e)))))) (.n (.e) none (.e)))))))
theorem tyTab_ok : tyTab.all (tyIs Tryd.prog) id = true := by kernel_rfl
theorem tt_ok : TabOk Tryd.prog tyTab.get := tabOk tyTab_ok
theorem ft_ok : ∀ f fn, fnTab.get f = some fn → Tryd.prog.funcs[f]? = some fn ∧ fn.body.isSome = true ∧ (fn.name == "runtime.NumGoroutine") = false := fun f fn h => Tr.allP_ok fnTab_all f fn h
theorem mo_ok : Tryd.prog.follows .mixedOrders = true := by kernel_rfl
theorem mtTab_ok : mtTab.all (fun q => mtIs Tryd.prog q.1 q.2.1 q.2.2) = true := by kernel_rfl
def kpOf (f r : Nat) : Option Nat := (kpTab.get f).bind fun t => t.get r
def ctxJ (b : Book) (lp : Nat → Nat → St → Option Tm) (jn : Nat → Nat → St → Option St) : Ctx := ⟨tyTab.get, fnTab.get, mtGet mtTab, b.hd, lp, kpOf, jn, fun _ _ _ => []⟩
def ctxS (b : Book) (lp : Nat → Nat → St → Option Tm) (jn : Nat → Nat → St → Option St) (sp : Nat → Nat → St → List X) : Ctx := ⟨tyTab.get, fnTab.get, mtGet mtTab, b.hd, lp, kpOf, jn, sp⟩
theorem ctxS_ok {I : Interp} {b : Book} {lp : Nat → Nat → St → Option Tm} {jn : Nat → Nat → St → Option St} {sp : Nat → Nat → St → List X} (h : BookOk Tryd.prog I b) : CtxOk Tryd.prog I (ctxS b lp jn sp) := ⟨tt_ok, ft_ok, mt_ok mtTab_ok, mo_ok, Book.ok h⟩
def ctxOf (b : Book) (lp : Nat → Nat → St → Option Tm) : Ctx := ctxJ b lp fun _ _ _ => none
theorem ctxJ_ok {I : Interp} {b : Book} {lp : Nat → Nat → St → Option Tm} {jn : Nat → Nat → St → Option St} (h : BookOk Tryd.prog I b) : CtxOk Tryd.prog I (ctxJ b lp jn) := ⟨tt_ok, ft_ok, mt_ok mtTab_ok, mo_ok, Book.ok h⟩
theorem ctx_ok {I : Interp} {b : Book} {lp : Nat → Nat → St → Option Tm} (h : BookOk Tryd.prog I b) : CtxOk Tryd.prog I (ctxOf b lp) := ctxJ_ok h
end Go.Proofs.YtkphkjffcpkhjaaDoor
end
/-! The rows: what is the same for each law. -/
noncomputable section
set_option linter.unusedSimpArgs false
set_option linter.unusedVariables false
namespace Go.SE
open Go.RowKit (Below)
theorem trodAll_below {H : Type} {enc : TypeId × Value → H} {P : Program} (hl : laidOutB P = true) {W W' : World} (hb : Below W.heap.size W W') : ∀ {ts : List TypeId} {vs : List Value} {ds : List (DataW H)} {ps : List MemPlace},
    (∀ t ∈ ts, P.readableRec t = true ∧ t < P.types.size) → DataW.TrodAll enc P W 0 (fun _ => true) true ts vs ds ps → (∀ x ∈ ps, x.block < W.heap.size) → DataW.TrodAll enc P W' 0 (fun b => decide (b < W.heap.size)) true ts vs ds ps
  | [], [], [], ps, _, h, _ => h
  | t :: ts, v :: vs, d :: ds, ps, ht, h, hlt => by
    obtain ⟨p, q, h1, h2, rfl⟩ := h
    exact ⟨p, q, Below.trod hl (ht t List.mem_cons_self).1 (ht t List.mem_cons_self).2 h1 hb (fun x hx => hlt x (List.mem_append_left _ hx)),
      trodAll_below hl hb (fun u hu => ht u (List.mem_cons_of_mem _ hu)) h2 (fun x hx => hlt x (List.mem_append_right _ hx)), rfl⟩
  | [], [], _ :: _, _, _, h, _ => h.elim
  | [], _ :: _, _, _, _, h, _ => h.elim
  | _ :: _, [], _, _, _, h, _ => h.elim
  | _ :: _, _ :: _, [], _, _, h, _ => h.elim
/-- a law that has told true, and turned nothing below. -/
theorem law_post {H : Type} {enc : TypeId × Value → H} {P : Program} (hl : laidOutB P = true) {f : Func} {s : ChangeSpec} {W W' : World} {args : Array Value} {ds gs : List (DataW H)} {before : List MemPlace}
    (hW : DataW.Whole enc P f.params.toList s.vars false W args.toList ds gs before) (hv : s.vars = []) (hts : ∀ t ∈ f.params.toList, P.readableRec t = true ∧ t < P.types.size)
    (hs : s.fn H (ds ++ gs) = { results := [.lit (.bool true)], args := ds }) {tb : TypeId} (hr : f.resultTypes = #[tb]) (htb : P.underlying tb = some .bool) (hb : Below W.heap.size W W') :
    s.post enc P f false true false false W args (.bool true) W' := by
  have hW' := hW
  obtain ⟨p, q, hA, hV, rfl, _, _⟩ := hW
  rw [hv] at hV
  cases gs with
  | cons g gs => exact hV.elim
  | nil =>
    have hq : q = [] := hV
    subst hq
    refine ⟨ds, [], p ++ [], [], p, [], hW', ?_, ?_, ?_, hb.frame _, fun h => by cases h⟩
    · rw [hs, hr]
      exact ChangeShapes.trodAll_mk1 (RowKit.shut_bool htb true)
    · rw [hs]
      exact trodAll_below hl hb hts hA fun x hx => hW'.lt x (List.mem_append_left _ hx)
    · rw [hs, hv]; exact rfl
/-- a memory of views alone, with variables of its own. -/
def viewsOnly (h : H) : Bool :=
  h.still && (h.hp.all (fun q => Nat.blt q.1 h.nb && (match q.2 with | .rows false _ x _ _ => x.vs (blt' h.nv) | _ => false)) && h.fs.all (Fact.vs (blt' h.nv)))
theorem HRep.views {w0 : W0} {B : Nat → Prop} {ρ : Env} {σ : Pl} {h : H} {w : World} (hc : viewsOnly h = true) (h0 : HOk w0 B ρ σ h w) : HRep w0 B ρ σ h w := by
  simp only [viewsOnly, Bool.and_eq_true, List.all_eq_true] at hc
  obtain ⟨_, hb, hf⟩ := hc
  intro ρ' σ' he
  have hv : ∀ i, blt' h.nv i = true → ρ'.v i = ρ.v i := fun i hi => he.v i (Or.inl (by simpa [blt', Nat.blt_eq] using hi))
  have view : ∀ b k, fget h.hp b = some k → b < h.nb ∧ ∃ ks x e t, k = .rows false ks x e t ∧ x.vs (blt' h.nv) = true := by
    intro b k hk
    have := hb _ (fget_mem hk)
    rw [Nat.blt_eq] at this
    obtain ⟨h1, h2⟩ := this
    simp only at h1 h2
    split at h2
    · rename_i ks x e t
      exact ⟨h1, ks, x, e, t, rfl, h2⟩
    · cases h2
  refine ⟨⟨he.f.trans h0.ip.1, he.p.trans h0.ip.2⟩, h0.lay, h0.below, h0.size, fun b k hk => ?_, fun b c k l i j hb' hc' ok ol e => ?_, fun c p s ks x hc' => ?_, fun f hf' => ?_⟩
  · obtain ⟨h1, ks, x, e, t, rfl, h2⟩ := view b k hk
    have h3 := h0.blk b _ hk
    have eb : σ' b = σ b := he.b b (Or.inl h1)
    have ex : x.den ρ' = x.den ρ := X.den_vs he.f hv h2
    exact ⟨by rw [eb]; exact h3.1, by rw [ex]; simp only [adr, eb] at h3 ⊢; exact h3.2⟩
  · obtain ⟨_, _, _, _, _, rfl, _⟩ := view b k hb'
    cases Blk.has_own ok
  · obtain ⟨_, _, _, _, _, e, _⟩ := view c _ hc'
    cases e
  · exact (Fact.ok_vs he.f.symm he.p.symm (fun i hi => (hv i hi).symm) (hf f hf')).1 (h0.facts f hf')
theorem lay_ok {I : Interp} (hI : ∀ u, I.f 999 u = .b (match u with | [.i g] => decide (g = 1) | _ => false)) {W : World} (h : ∀ i, i < 256 → W.cell? ⟨1, i, none⟩ = some (.int .u8 (asciiAt i))) (h1 : 1 < W.heap.size) : LayOk ⟨W, I⟩ (· < W.heap.size) := by
  intro g hg
  have hg' : (I.f 999 [.i (g : Int)]).asB = true := hg
  rw [hI] at hg'
  simp only [asB_b, decide_eq_true_eq] at hg'
  have : g = 1 := by omega
  subst this
  exact ⟨h1, h⟩
theorem below_of_shape {P : Program} {w : World} {r : Reach} {base : Nat} {a : Addr} {e : TypeId} {n : Nat} (h : w.has P r base a e n) : a.spot = none ∧ a.block < w.heap.size := by
  obtain ⟨_, h1, row, cells, h2, _⟩ := h
  refine ⟨h1, ?_⟩
  rcases Nat.lt_or_ge a.block w.heap.size with hlt | hge
  · exact hlt
  · unfold World.shape? at h2
    rw [Array.getElem?_eq_none hge] at h2
    simp at h2
theorem below_cell {w : World} {b i : Nat} {v : Value} (h : w.cell? ⟨b, i, none⟩ = some v) : b < w.heap.size := by
  rcases Nat.lt_or_ge b w.heap.size with hlt | hge
  · exact hlt
  · simp [World.cell?, Array.getElem?_eq_none hge] at h
/-- a slice of numbers that came in: nil, or a row that can be read. -/
theorem open_nums {H : Type} {enc : TypeId × Value → H} {P : Program} {w : World} {r : Reach} {b0 : Nat} {t e : TypeId} {k : IntKind} {v : Value} {d : DataW H} {ps : List MemPlace}
    (ht : P.underlying t = some (.slice e)) (hi : P.underlying e = some (.int k)) (hc : P.cellsOf e = 1) (hval : Value.okWide P w r b0 t v) (hd : DataW.Trod enc P w 0 (fun _ => true) true t v d ps) :
    v = .slice none 0 0 ∨ ∃ (b off len cap : Nat) (zs : List Int), v = .slice (some ⟨b, off, none⟩) len cap ∧ b < w.heap.size ∧ len ≤ cap ∧ zs.length = len ∧ (cap : Int) ≤ 9223372036854775807 ∧
      (∀ i, i < len → w.cell? ⟨b, off + i, none⟩ = some (.int k (zs.getD i 0))) ∧ (∀ n ∈ zs, k.min ≤ n ∧ n ≤ k.max) := by
  obtain ⟨a, len, cap, rfl⟩ := WideShapes.okWide_slice ht hval
  obtain ⟨fuel, hf⟩ := hd
  rcases ChangeShapes.open_ints ht hi hc hf with ⟨h1, _⟩ | ⟨a', len', cap', zs, h1, _, h3, _, h5, _, h7, h8⟩
  · left
    simpa [Value.cells] using h1
  · right
    simp [Value.cells] at h1
    obtain ⟨rfl, rfl, rfl⟩ := h1
    have hok : len ≤ cap ∧ (cap : Int) ≤ IntKind.i64.max ∧ w.has P r b0 a' e cap := by
      simpa [Value.okWide, ht, Cell.okWide, Cell.ok] using hval
    obtain ⟨hs, hbl⟩ := below_of_shape hok.2.2
    simp only [if_true] at h5
    obtain ⟨ab, ao, asp⟩ := a'
    simp only at hs hbl
    subst hs
    refine ⟨ab, ao, len, cap, zs.take len, rfl, hbl, h3, by simp; omega, ?_, fun i hi' => ?_, fun n hn => ?_⟩
    · have : IntKind.i64.max = 9223372036854775807 := by decide
      omega
    · have := h7 i (by omega)
      rw [show (zs.take len).getD i 0 = zs.getD i 0 by simp [List.getD_eq_getElem?_getD, List.getElem?_take, hi']]
      have e : (⟨ab, ao, none⟩ : Addr).add i = ⟨ab, ao + i, none⟩ := by
        simp only [Addr.add]
        by_cases hi0 : i = 0 <;> simp [hi0]
      rw [e] at this
      exact this
    · have := h8 n (List.mem_of_mem_take hn)
      simpa [Lit.wf] using this
/-- a slice of rows of truth values that came in. -/
theorem open_boolrows {H : Type} {enc : TypeId × Value → H} {P : Program} {w : World} {r : Reach} {b0 n : Nat} {t e tb : TypeId} {v : Value} {d : DataW H} {ps : List MemPlace}
    (ht : P.underlying t = some (.slice e)) (he : P.underlying e = some (.array n tb)) (hb : P.underlying tb = some .bool) (hcb : P.cellsOf tb = 1) (hce : P.cellsOf e = n) (hval : Value.okWide P w r b0 t v) (hd : DataW.Trod enc P w 0 (fun _ => true) true t v d ps) :
    v = .slice none 0 0 ∨ ∃ (b off len cap : Nat) (zs : Nat → Nat → Bool), v = .slice (some ⟨b, off, none⟩) len cap ∧ b < w.heap.size ∧ len ≤ cap ∧ (cap : Int) ≤ 9223372036854775807 ∧
      (∀ i j, i < len → j < n → w.cell? ⟨b, off + (i * n + j), none⟩ = some (.bool (zs i j))) := by
  obtain ⟨a, len, cap, rfl⟩ := WideShapes.okWide_slice ht hval
  obtain ⟨fuel, hf⟩ := hd
  rcases DataW.trod_slice ht hf with ⟨h1, _⟩ | ⟨a', len', cap', elems, rest, m, _, h1, _, _, h3, _, h5, h6, _, _⟩
  · left
    simpa [Value.cells] using h1
  · right
    simp [Value.cells] at h1
    obtain ⟨rfl, rfl, rfl⟩ := h1
    have hok : len ≤ cap ∧ (cap : Int) ≤ IntKind.i64.max ∧ w.has P r b0 a' e cap := by
      simpa [Value.okWide, ht, Cell.okWide, Cell.ok] using hval
    obtain ⟨hs, hbl⟩ := below_of_shape hok.2.2
    obtain ⟨ab, ao, asp⟩ := a'
    simp only at hs hbl
    subst hs
    have hadd : ∀ (o i : Nat), (⟨ab, o, none⟩ : Addr).add i = ⟨ab, o + i, none⟩ := by
      intro o i
      simp only [Addr.add]
      by_cases hi0 : i = 0 <;> simp [hi0]
    refine ⟨ab, ao, len, cap, fun i j => match w.cell? ⟨ab, ao + (i * n + j), none⟩ with | some (.bool x) => x | _ => false, rfl, hbl, h3, ?_, fun i j hi hj => ?_⟩
    · have : IntKind.i64.max = 9223372036854775807 := by decide
      omega
    · have h7 := h6 i hi
      rw [List.getElem?_eq_getElem (by omega), Option.bind_eq_some_iff] at h7
      obtain ⟨cs', hcs, hy⟩ := h7
      obtain ⟨_, hcl, hcell⟩ := World.cells?_some hcs
      obtain ⟨xs, m1, _, _, _, hxl, hel⟩ := DataW.trod_array he hy
      have h8 := hel j hj
      rw [hcb, List.getElem?_eq_getElem (by omega), Nat.mul_one] at h8
      obtain ⟨x, hx, _⟩ := DataW.trod_bool hb h8
      have h9 : cs'[j]? = some (.bool x) := by
        have : ((cs'.drop j).take 1)[0]? = some (.bool x) := by rw [hx]; rfl
        simpa using this
      have h10 := hcell j (by omega)
      rw [hce, hadd, hadd, h9, Nat.add_assoc] at h10
      simp only [h10]
theorem start_none {I : Interp} (hI : ∀ u, I.f 999 u = .b (match u with | [.i g] => decide (g = 1) | _ => false)) {W : World} (hl : ∀ i, i < 256 → W.cell? ⟨1, i, none⟩ = some (.int .u8 (asciiAt i))) (h1 : 1 < W.heap.size)
    {h : H} (hv : viewsOnly h = true) (hhp : h.hp = []) {ρ : Env} {σ : Pl} (hf : ρ.f = I.f) (hp : ρ.p = I.p) (hfs : ∀ f ∈ h.fs, f.ok ρ) : HRep ⟨W, I⟩ (· < W.heap.size) ρ σ h W :=
  HRep.views hv ⟨⟨hf, hp⟩, lay_ok hI hl h1, Bel.refl _ _, fun _ h => h, fun b k hk => (by rw [hhp] at hk; cases hk), fun b c k l _ _ hb => (by rw [hhp] at hb; cases hb), fun c _ _ _ _ hb => (by rw [hhp] at hb; cases hb), hfs⟩
theorem start_one {I : Interp} (hI : ∀ u, I.f 999 u = .b (match u with | [.i g] => decide (g = 1) | _ => false)) {W : World} (hl : ∀ i, i < 256 → W.cell? ⟨1, i, none⟩ = some (.int .u8 (asciiAt i))) (h1 : 1 < W.heap.size)
    {h : H} (hv : viewsOnly h = true) {ks : List CK} {x : X} {e : TypeId} {t : X} (hhp : h.hp = [(0, .rows false ks x e t)]) {ρ : Env} (hf : ρ.f = I.f) (hp : ρ.p = I.p) {b off : Nat} (hb : b < W.heap.size)
    (hc : ∀ (r j : Nat) (k : CK), r < (x.den ρ).asL.length → ks[j]? = some k → W.cell? ⟨b, off + (r * ks.length + j), none⟩ = some (k.val (rowU ks.length ((x.den ρ).asL.getD r default) j))) (hfs : ∀ f ∈ h.fs, f.ok ρ) :
    HRep ⟨W, I⟩ (· < W.heap.size) ρ (fun _ _ => (b, off)) h W := by
  refine HRep.views hv ⟨⟨hf, hp⟩, lay_ok hI hl h1, Bel.refl _ _, fun _ h => h, fun i k hk => ?_, fun i c k l _ _ hb' _ ok => ?_, fun c p s ks x hc => ?_, hfs⟩
  · rw [hhp, fget_cons, fget_nil] at hk
    cases h0 : Nat.beq 0 i with
    | false => rw [h0] at hk; cases hk
    | true => rw [h0] at hk; cases hk; exact ⟨hb, hc⟩
  · rw [hhp, fget_cons, fget_nil] at hb'
    cases h0 : Nat.beq 0 i with
    | false => rw [h0] at hb'; cases hb'
    | true => rw [h0] at hb'; cases hb'; cases Blk.has_own ok
  · rw [hhp, fget_cons, fget_nil] at hc
    cases h0 : Nat.beq 0 c with
    | false => rw [h0] at hc; cases hc
    | true => rw [h0] at hc; cases hc
def boolRows (len n : Nat) (zs : Nat → Nat → Bool) : U := .l ((List.range len).map fun i => .l ((List.range n).map fun j => .b (zs i j)))
theorem boolRows_cell {W : World} {b off len n : Nat} {zs : Nat → Nat → Bool} (hn : Nat.beq n 1 = false) (hc : ∀ i j, i < len → j < n → W.cell? ⟨b, off + (i * n + j), none⟩ = some (.bool (zs i j))) :
    ∀ (r j : Nat) (k : CK), r < (boolRows len n zs).asL.length → (List.replicate n CK.bool)[j]? = some k → W.cell? ⟨b, off + (r * (List.replicate n CK.bool).length + j), none⟩ = some (k.val (rowU (List.replicate n CK.bool).length ((boolRows len n zs).asL.getD r default) j)) := by
  intro r j k hr hj
  have hr' : r < len := by simpa [boolRows] using hr
  have hj' : j < n := by have := (List.getElem?_eq_some_iff.1 hj).1; simpa using this
  have hk : k = .bool := by rw [List.getElem?_replicate] at hj; simp [hj'] at hj; exact hj.symm
  subst hk
  rw [List.length_replicate, hc r j hr' hj']
  simp [boolRows, rowU, hn, CK.val, List.getD_eq_getElem?_getD, hr', hj']
theorem told_true {I : Interp} {h : H} {W w' : World} {ρ : Env} {σ : Pl} {c : Ctr} (hc : c.outs = [(.bool (.t true), h)]) {e : Ending}
    (he : ∃ q ∈ c.outs, ∃ ρ' σ' v, e = .returned v ∧ Ext c.h ρ ρ' σ σ' ∧ c.h.le q.2 ∧ HRep ⟨W, I⟩ (· < W.heap.size) ρ' σ' q.2 w' ∧ VRep ρ' σ' q.2 [q.1] [v]) : e = .returned (.bool true) ∧ Below W.heap.size W w' := by
  obtain ⟨q, hq, ρ', σ', v, rfl, _, _, h4, h5⟩ := he
  rw [hc, List.mem_singleton] at hq
  subst hq
  have := h5 _ _ (Ext.refl _ _ _)
  simp only [List.map_cons, List.map_nil, SV.val, X.den, asB_b, List.cons.injEq, and_true] at this
  exact ⟨by rw [← this], h4.now.below.below⟩
end Go.SE
namespace Go.Proofs.YtkphkjffcpkhjaaDoor
open Go Go.SE
open Go.ChangeShapes Go.WideShapes Go.ChangeAt Go.RowKit
set_option maxRecDepth 1000000
theorem own : ownKnob Tryd.prog.godebug = none := by kernel_rfl
theorem laidOut : laidOutB Tryd.prog = true := by kernel_rfl
theorem gAscii : Tryd.prog.globalNamed "strings.asciiSpace" = some 1 := by kernel_rfl
theorem tAscii : (Tryd.prog.globals[1]?).map (·.type) = some 139 := by kernel_rfl
theorem ascii_data {H : Type} : (Rows.laid_strings_asciiSpace : DataW H) = .agg ((List.range 256).map fun i => .lit (.int .u8 (asciiAt i))) := by rfl
/-- what the listed variables give: the table of blanks. -/
theorem of_laid {W : World} (h : laidMetH Tryd.prog Rows.fbEverRow.laid W) : ∀ i, i < 256 → W.cell? ⟨1, i, none⟩ = some (.int .u8 (asciiAt i)) := by
  rw [MakeChecks.laidMetH_plain _ _ _ (by kernel_rfl)] at h
  obtain ⟨ps, ⟨g0, t0, cs0, f0, p0, q0, hg0, ht0, hv0, hd0, ⟨g1, t1, cs1, f1, p1, q1, hg1, ht1, hv1, hd1, _, _⟩, _⟩, _, _⟩ := h
  obtain rfl := Option.some.inj (gAscii.symm.trans hg1)
  obtain rfl := Option.some.inj (tAscii.symm.trans ht1)
  obtain ⟨xs, m1, rfl, hx1, hlen, hn3, hel⟩ := DataW.trod_array Tryd.underlying139 hd1
  have c5 : Tryd.prog.cellsOf 5 = 1 := by kernel_rfl
  simp only [Prod.mk.injEq] at hx1
  rw [ascii_data] at hx1
  simp only [DataW.agg.injEq] at hx1
  intro i hi
  have h0 := hel i hi
  have hxi : i < xs.length := by omega
  rw [List.getElem?_eq_getElem hxi] at h0
  obtain ⟨k, e1, e2, _⟩ := DataW.trod_int Tryd.underlying5 h0
  have e3 : (xs.map (·.1))[i]? = some (.lit (.int .u8 k)) := by rw [List.getElem?_map, List.getElem?_eq_getElem hxi, e2]; rfl
  rw [← hx1.1] at e3
  rw [List.getElem?_map, List.getElem?_range hi] at e3
  simp only [Option.map_some, Option.some.injEq, DataW.lit.injEq, Lit.int.injEq, true_and] at e3
  subst e3
  have := World.var?_cell hg1 hv1 i
  rw [this]
  rw [c5] at e1
  have e4 : cs1.toList[i]? = some (.int .u8 (asciiAt i)) := by
    have : ((cs1.toList.drop (i * 1)).take 1)[0]? = some (.int .u8 (asciiAt i)) := by rw [e1]; rfl
    simpa using this
  simpa using e4
end Go.Proofs.YtkphkjffcpkhjaaDoor
end
/-! What the functions of this program do, as contracts (data; printed by gen/base.py). -/
noncomputable section
set_option linter.unusedSimpArgs false
set_option linter.unusedVariables false
namespace Go.SE
def w32 (n : Int) : Int := IntKind.i32.wrap n
def w16 (n : Int) : Int := IntKind.i16.wrap n
def w64 (n : Int) : Int := IntKind.i64.wrap n
def laidF : Fact := .x (.u (.f 999) (.n 1))
def e0 (n : Nat) : H := ⟨[], 0, 0, n, 0, [laidF]⟩
def wrapX (k : Nat) (x : X) : X := match k with | 1 => .u .b2i (.u .not (.o .eq x (.n 0))) | 3 => .u (.wrap .i16) x | _ => .u (.wrap .i32) x
def wrapK (k : Nat) : Ctr := ⟨[.int .i64 (.n k), .int .i64 (.v 0)], e0 1, [(.int .i64 (wrapX k (.v 0)), e0 1)]⟩
def pinK (b p : List Nat) (k : Nat) : Ctr := ⟨[.str (.s b), .str (.s p)], e0 0, [(.int .i64 (.n k), e0 0)]⟩
def truthK : Ctr := ⟨[.bool (.v 0)], e0 1, [(.int .i64 (.u .b2i (.v 0)), e0 1)]⟩
def rangeK : Ctr := ⟨[.int .i64 (.n 3)], e0 0, [(.tuple [.int .i64 (.n (-32768)), .int .i64 (.n 32767)], e0 0)]⟩
def kindK (s : List Nat) (k : Nat) : Ctr := ⟨[.str (.s s)], e0 0, [(.int .i64 (.n k), e0 0)]⟩
def strsB (l : List (List Nat)) (tot : X) : Blk := .cells (l.map fun s => .str (.s s)) 9 tot
def fieldsK (s : List Nat) (l : List (List Nat)) : Ctr :=
  ⟨[.str (.s s)], e0 0, [(.slice 0 0 (.n 0) 1 (.n l.length) (.n l.length), ⟨[(0, strsB l (.n l.length))], 1, 0, 0, 0, [laidF]⟩)]⟩
def pinsK (b : List Nat) (i o : List (List Nat)) : Ctr :=
  ⟨[.str (.s b)], e0 0, [(.tuple [.slice 0 0 (.n 0) 1 (.n i.length) (.v 0), .slice 1 0 (.n 0) 1 (.n o.length) (.v 1)],
    ⟨[(1, strsB o (.o .mul (.v 1) (.n 1))), (0, strsB i (.o .mul (.v 0) (.n 1)))], 2, 0, 2, 0, [.x (.o .le (.n o.length) (.v 1)), .x (.o .le (.v 1) (.n 9223372036854775807)), .x (.o .le (.n i.length) (.v 0)), .x (.o .le (.v 0) (.n 9223372036854775807)), laidF]⟩)]⟩
def sTON : List Nat := [84, 79, 78]
def sTOF : List Nat := [84, 79, 70]
def sTP : List Nat := [84, 80]
def sCTU : List Nat := [67, 84, 85]
def sCTD : List Nat := [67, 84, 68]
def sCTUD : List Nat := [67, 84, 85, 68]
def sR_TRIG : List Nat := [82, 95, 84, 82, 73, 71]
def sF_TRIG : List Nat := [70, 95, 84, 82, 73, 71]
def sSR : List Nat := [83, 82]
def sRS : List Nat := [82, 83]
def kindKs : List Ctr := [kindK [66, 79, 79, 76] 1, kindK [73, 78, 84] 3, kindK [84, 73, 77, 69] 11]
def fieldsKs : List Ctr := [fieldsK [73, 78, 32, 66, 79, 79, 76, 32, 80, 84, 32, 84, 73, 77, 69] [[73, 78], [66, 79, 79, 76], [80, 84], [84, 73, 77, 69]], fieldsK [81, 32, 66, 79, 79, 76, 32, 69, 84, 32, 84, 73, 77, 69] [[81], [66, 79, 79, 76], [69, 84], [84, 73, 77, 69]], fieldsK [73, 78, 32, 66, 79, 79, 76, 32, 80, 84, 32, 84, 73, 77, 69, 32, 81, 32, 66, 79, 79, 76, 32, 69, 84, 32, 84, 73, 77, 69] [[73, 78], [66, 79, 79, 76], [80, 84], [84, 73, 77, 69], [81], [66, 79, 79, 76], [69, 84], [84, 73, 77, 69]], fieldsK [67, 85, 32, 66, 79, 79, 76, 32, 82, 32, 66, 79, 79, 76, 32, 80, 86, 32, 73, 78, 84] [[67, 85], [66, 79, 79, 76], [82], [66, 79, 79, 76], [80, 86], [73, 78, 84]], fieldsK [81, 32, 66, 79, 79, 76, 32, 67, 86, 32, 73, 78, 84] [[81], [66, 79, 79, 76], [67, 86], [73, 78, 84]], fieldsK [67, 85, 32, 66, 79, 79, 76, 32, 82, 32, 66, 79, 79, 76, 32, 80, 86, 32, 73, 78, 84, 32, 81, 32, 66, 79, 79, 76, 32, 67, 86, 32, 73, 78, 84] [[67, 85], [66, 79, 79, 76], [82], [66, 79, 79, 76], [80, 86], [73, 78, 84], [81], [66, 79, 79, 76], [67, 86], [73, 78, 84]], fieldsK [67, 68, 32, 66, 79, 79, 76, 32, 76, 68, 32, 66, 79, 79, 76, 32, 80, 86, 32, 73, 78, 84] [[67, 68], [66, 79, 79, 76], [76, 68], [66, 79, 79, 76], [80, 86], [73, 78, 84]], fieldsK [67, 68, 32, 66, 79, 79, 76, 32, 76, 68, 32, 66, 79, 79, 76, 32, 80, 86, 32, 73, 78, 84, 32, 81, 32, 66, 79, 79, 76, 32, 67, 86, 32, 73, 78, 84] [[67, 68], [66, 79, 79, 76], [76, 68], [66, 79, 79, 76], [80, 86], [73, 78, 84], [81], [66, 79, 79, 76], [67, 86], [73, 78, 84]], fieldsK [67, 85, 32, 66, 79, 79, 76, 32, 67, 68, 32, 66, 79, 79, 76, 32, 82, 32, 66, 79, 79, 76, 32, 76, 68, 32, 66, 79, 79, 76, 32, 80, 86, 32, 73, 78, 84] [[67, 85], [66, 79, 79, 76], [67, 68], [66, 79, 79, 76], [82], [66, 79, 79, 76], [76, 68], [66, 79, 79, 76], [80, 86], [73, 78, 84]], fieldsK [81, 85, 32, 66, 79, 79, 76, 32, 81, 68, 32, 66, 79, 79, 76, 32, 67, 86, 32, 73, 78, 84] [[81, 85], [66, 79, 79, 76], [81, 68], [66, 79, 79, 76], [67, 86], [73, 78, 84]], fieldsK [67, 85, 32, 66, 79, 79, 76, 32, 67, 68, 32, 66, 79, 79, 76, 32, 82, 32, 66, 79, 79, 76, 32, 76, 68, 32, 66, 79, 79, 76, 32, 80, 86, 32, 73, 78, 84, 32, 81, 85, 32, 66, 79, 79, 76, 32, 81, 68, 32, 66, 79, 79, 76, 32, 67, 86, 32, 73, 78, 84] [[67, 85], [66, 79, 79, 76], [67, 68], [66, 79, 79, 76], [82], [66, 79, 79, 76], [76, 68], [66, 79, 79, 76], [80, 86], [73, 78, 84], [81, 85], [66, 79, 79, 76], [81, 68], [66, 79, 79, 76], [67, 86], [73, 78, 84]], fieldsK [67, 76, 75, 32, 66, 79, 79, 76] [[67, 76, 75], [66, 79, 79, 76]], fieldsK [81, 32, 66, 79, 79, 76] [[81], [66, 79, 79, 76]], fieldsK [67, 76, 75, 32, 66, 79, 79, 76, 32, 81, 32, 66, 79, 79, 76] [[67, 76, 75], [66, 79, 79, 76], [81], [66, 79, 79, 76]], fieldsK [83, 49, 32, 66, 79, 79, 76, 32, 82, 32, 66, 79, 79, 76] [[83, 49], [66, 79, 79, 76], [82], [66, 79, 79, 76]], fieldsK [81, 49, 32, 66, 79, 79, 76] [[81, 49], [66, 79, 79, 76]], fieldsK [83, 49, 32, 66, 79, 79, 76, 32, 82, 32, 66, 79, 79, 76, 32, 81, 49, 32, 66, 79, 79, 76] [[83, 49], [66, 79, 79, 76], [82], [66, 79, 79, 76], [81, 49], [66, 79, 79, 76]], fieldsK [83, 32, 66, 79, 79, 76, 32, 82, 49, 32, 66, 79, 79, 76] [[83], [66, 79, 79, 76], [82, 49], [66, 79, 79, 76]], fieldsK [83, 32, 66, 79, 79, 76, 32, 82, 49, 32, 66, 79, 79, 76, 32, 81, 49, 32, 66, 79, 79, 76] [[83], [66, 79, 79, 76], [82, 49], [66, 79, 79, 76], [81, 49], [66, 79, 79, 76]]]
def pinsKs : List Ctr := [pinsK sTON [[73, 78], [80, 84]] [[81], [69, 84]], pinsK sTOF [[73, 78], [80, 84]] [[81], [69, 84]], pinsK sTP [[73, 78], [80, 84]] [[81], [69, 84]], pinsK sCTU [[67, 85], [82], [80, 86]] [[81], [67, 86]], pinsK sCTD [[67, 68], [76, 68], [80, 86]] [[81], [67, 86]], pinsK sCTUD [[67, 85], [67, 68], [82], [76, 68], [80, 86]] [[81, 85], [81, 68], [67, 86]], pinsK sR_TRIG [[67, 76, 75]] [[81]], pinsK sF_TRIG [[67, 76, 75]] [[81]], pinsK sSR [[83, 49], [82]] [[81, 49]], pinsK sRS [[83], [82, 49]] [[81, 49]]]
def pinKs : List Ctr := [pinK sTON [73, 78] 1, pinK sTON [80, 84] 11, pinK sTON [81] 1, pinK sTON [69, 84] 11, pinK sTOF [73, 78] 1, pinK sTOF [80, 84] 11, pinK sTOF [81] 1, pinK sTOF [69, 84] 11, pinK sTP [73, 78] 1, pinK sTP [80, 84] 11, pinK sTP [81] 1, pinK sTP [69, 84] 11, pinK sCTU [67, 85] 1, pinK sCTU [82] 1, pinK sCTU [80, 86] 3, pinK sCTU [81] 1, pinK sCTU [67, 86] 3, pinK sCTD [67, 68] 1, pinK sCTD [76, 68] 1, pinK sCTD [80, 86] 3, pinK sCTD [81] 1, pinK sCTD [67, 86] 3, pinK sCTUD [67, 85] 1, pinK sCTUD [67, 68] 1, pinK sCTUD [82] 1, pinK sCTUD [76, 68] 1, pinK sCTUD [80, 86] 3, pinK sCTUD [81, 85] 1, pinK sCTUD [81, 68] 1, pinK sCTUD [67, 86] 3, pinK sR_TRIG [67, 76, 75] 1, pinK sR_TRIG [81] 1, pinK sF_TRIG [67, 76, 75] 1, pinK sF_TRIG [81] 1, pinK sSR [83, 49] 1, pinK sSR [82] 1, pinK sSR [81, 49] 1, pinK sRS [83] 1, pinK sRS [82, 49] 1, pinK sRS [81, 49] 1]
def wrapKs : List Ctr := [wrapK 1, wrapK 3, wrapK 4, wrapK 11]
def bookA : Book := [(45, fieldsKs), (46, kindKs)]
def book0 : Book := [(28, wrapKs), (30, pinKs), (27, pinsKs), (134, [truthK]), (44, [truthK]), (84, [rangeK])]
end Go.SE
end
