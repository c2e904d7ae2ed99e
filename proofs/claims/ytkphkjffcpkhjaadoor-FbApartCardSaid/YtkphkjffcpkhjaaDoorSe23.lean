import Derived.Test.YtkphkjffcpkhjaaDoorSe22
/-! The symbolic executor: one state as a case of another (a template). -/
noncomputable section
set_option linter.unusedSimpArgs false
set_option linter.unusedVariables false
namespace Go.SE
open Go.RowKit (Below)

def Fact.sub (f : Nat → X) : Fact → Fact
  | .x e => .x (e.sub f)
  | .p k l => .p k (l.map (X.sub f))
  | .q a b => .q (a.sub f) (b.sub f)
def Fact.vs (p : Nat → Bool) : Fact → Bool
  | .x e => e.vs p
  | .p _ l => l.all (X.vs p)
  | .q a b => a.vs p && b.vs p
theorem Fact.ok_sub (f : Nat → X) (ρ : Env) (c : Fact) : (c.sub f).ok ρ ↔ c.ok (subE f ρ) := by
  cases c with
  | x e => simp only [Fact.sub, Fact.ok, X.den_sub]
  | p k l =>
    simp only [Fact.sub, Fact.ok, List.map_map]
    have : (X.den ρ ∘ X.sub f) = X.den (subE f ρ) := by funext x; exact X.den_sub f ρ x
    rw [this]; rfl
  | q a b => simp only [Fact.sub, Fact.ok, X.den_sub]
theorem Fact.ok_vs {p : Nat → Bool} {ρ ρ' : Env} (hf : ρ.f = ρ'.f) (hp : ρ.p = ρ'.p) (hv : ∀ i, p i = true → ρ.v i = ρ'.v i) {c : Fact} (h : c.vs p = true) : c.ok ρ ↔ c.ok ρ' := by
  cases c with
  | x e => simp only [Fact.ok, X.den_vs hf hv h]
  | p k l =>
    simp only [Fact.vs, List.all_eq_true] at h
    have : l.map (X.den ρ) = l.map (X.den ρ') := List.map_congr_left fun x hx => X.den_vs hf hv (h x hx)
    simp only [Fact.ok, this, hp]
  | q a b =>
    simp only [Fact.vs, Bool.and_eq_true] at h
    simp only [Fact.ok, X.den_vs hf hv h.1, X.den_vs hf hv h.2]

def kn (fs : List Fact) (c : Fact) : Bool :=
  match c with
  | .x (.t true) => true
  | .q a b => xeq a b || fs.any (feq c)
  | _ => fs.any (feq c)
theorem kn_ok {fs : List Fact} {c : Fact} (h : kn fs c = true) (ρ : Env) (hf : ∀ f ∈ fs, f.ok ρ) : c.ok ρ := by
  have any : fs.any (feq c) = true → c.ok ρ := by
    intro h
    simp only [List.any_eq_true] at h
    obtain ⟨f, hm, h⟩ := h
    rw [feq_eq _ _ h]; exact hf f hm
  unfold kn at h
  split at h
  · rfl
  · simp only [Bool.or_eq_true] at h
    rcases h with h | h
    · rw [xeq_eq h]; rfl
    · exact any h
  · exact any h
def fob (fs : List Fact) : List Fact → List Obl
  | [] => []
  | c :: r => bif kn fs c then fob fs r else ⟨fs, c⟩ :: fob fs r
theorem fob_ok {w0 : W0} {fs : List Fact} : ∀ {l : List Fact}, (∀ o ∈ fob fs l, o.ok w0) → ∀ ρ : Env, ρ.f = w0.i.f ∧ ρ.p = w0.i.p → (∀ f ∈ fs, f.ok ρ) → ∀ c ∈ l, c.ok ρ
  | [], _, _, _, _ => by simp
  | c :: r, h, ρ, ip, hf => by
    intro d hd
    simp only [fob] at h
    cases hk : kn fs c with
    | true =>
      simp only [hk, cond_true] at h
      simp only [List.mem_cons] at hd
      rcases hd with rfl | hd
      · exact kn_ok hk ρ hf
      · exact fob_ok h ρ ip hf d hd
    | false =>
      simp only [hk, cond_false] at h
      simp only [List.mem_cons] at hd
      rcases hd with rfl | hd
      · exact h _ List.mem_cons_self ρ ip.1 ip.2 hf
      · exact fob_ok (fun o ho => h o (List.mem_cons_of_mem _ ho)) ρ ip hf d hd
def prF (f : Nat → X) (L : Prs) : List Fact := L.map fun q => .q (q.1.sub f) q.2
theorem prF_ok {f : Nat → X} {ρ : Env} {L : Prs} (h : ∀ c ∈ prF f L, c.ok ρ) : ∀ q ∈ L, q.1.den (subE f ρ) = q.2.den ρ := by
  intro q hq
  have := h _ (List.mem_map_of_mem hq)
  rw [← X.den_sub]
  exact this

/-- a putting: what stands for the variables and blocks from some on. -/
structure Gm where
  b0 : Nat
  v0 : Nat
  xs : List X
  bs : List Nat
def Gm.f (g : Gm) (i : Nat) : X := bif Nat.blt i g.v0 then .v i else g.xs.getD (i - g.v0) (.n 0)
def Gm.fb (g : Gm) (b : Nat) : Nat := bif Nat.blt b g.b0 then b else g.bs.getD (b - g.b0) b
def blt' (n i : Nat) : Bool := Nat.blt i n
def prVs (n : Nat) (L : Prs) : Bool := L.all fun q => q.1.vs (blt' n)

def H.still (h : H) : Bool := Nat.beq h.xb 0 && Nat.beq h.xv 0
theorem H.still_alV {h : H} (hs : h.still = true) {i : Nat} (ha : h.alV i) : i < h.nv := by
  simp only [H.still, Bool.and_eq_true, beq_true] at hs
  rcases ha with ha | ha
  · exact ha
  · rw [hs.2] at ha; simp at ha
theorem H.still_alB {h : H} (hs : h.still = true) {i : Nat} (ha : h.alB i) : i < h.nb := by
  simp only [H.still, Bool.and_eq_true, beq_true] at hs
  rcases ha with ha | ha
  · exact ha
  · rw [hs.1] at ha; simp at ha
/-- what must hold for a memory to be a case of a template, made out of an older one. -/
def chkH (h0 T h : H) (g : Gm) : Option (List Fact) :=
  bif h0.still && (T.still && (Nat.beq g.b0 h0.nb && (Nat.beq g.v0 h0.nv && (Nat.ble h0.nb T.nb && (Nat.ble h0.nv T.nv && (inj g.fb T.hp && T.fs.all (Fact.vs (blt' T.nv)))))))) then
    (hpP T.nb g.fb h.hp T.hp).bind fun L => bif prVs T.nv L then some (prF g.f L ++ T.fs.map (Fact.sub g.f)) else none
  else none
theorem gen_core {w0 : W0} {h0 T h : H} {g : Gm} {F : List Fact} (hc : chkH h0 T h g = some F) {B : Nat} {ρ : Env} {σ : Pl} {w : World} (hr : HOk w0 B ρ σ h w) (hF : ∀ c ∈ F, c.ok ρ) :
    Ext h0 ρ (subE g.f ρ) σ (fun b => σ (g.fb b)) ∧ h0.le T ∧ HRep w0 B (subE g.f ρ) (fun b => σ (g.fb b)) T w ∧
    ∀ t s L, svP T.nb g.fb t s = some L → prVs T.nv L = true → (∀ c ∈ prF g.f L, c.ok ρ) → ∀ ρ2 σ2, Ext T (subE g.f ρ) ρ2 (fun b => σ (g.fb b)) σ2 → t.val ρ2 σ2 = s.val ρ σ := by
  unfold chkH at hc
  obtain ⟨h1, hc⟩ := bndo hc
  simp only [Bool.and_eq_true, beq_true, Nat.ble_eq, List.all_eq_true] at h1
  obtain ⟨s0, sT, e1, e2, le1, le2, hin, hfs⟩ := h1
  obtain ⟨L, hL, hc⟩ := bind1 hc
  obtain ⟨h2, rfl⟩ := bnd hc
  have hL1 : ∀ q ∈ L, q.1.den (subE g.f ρ) = q.2.den ρ := prF_ok fun c hx => hF c (List.mem_append_left _ hx)
  have hFs : ∀ c ∈ T.fs, c.ok (subE g.f ρ) := fun c hx => (Fact.ok_sub _ _ _).1 (hF _ (List.mem_append_right _ (List.mem_map_of_mem hx)))
  have hle : h0.le T := ⟨fun i hi => Or.inl (Nat.lt_of_lt_of_le (H.still_alV s0 hi) le2), fun i hi => Or.inl (Nat.lt_of_lt_of_le (H.still_alB s0 hi) le1)⟩
  have hvs : ∀ (L : Prs), prVs T.nv L = true → (∀ q ∈ L, q.1.den (subE g.f ρ) = q.2.den ρ) → ∀ ρ2 σ2, Ext T (subE g.f ρ) ρ2 (fun b => σ (g.fb b)) σ2 → ∀ q ∈ L, q.1.den ρ2 = q.2.den ρ := by
    intro L hL hd ρ2 σ2 he q hq
    simp only [prVs, List.all_eq_true] at hL
    rw [← hd q hq]
    exact X.den_vs he.f (fun i hi => he.v i (Or.inl (by simpa [blt', Nat.blt_eq] using hi))) (hL q hq)
  have hbs : ∀ ρ2 σ2, Ext T (subE g.f ρ) ρ2 (fun b => σ (g.fb b)) σ2 → ∀ b, b < T.nb → σ2 b = σ (g.fb b) := fun ρ2 σ2 he b hb => he.b b (Or.inl hb)
  refine ⟨⟨rfl, rfl, fun i hi => ?_, fun b hb => ?_⟩, hle, fun ρ2 σ2 he => ?_, fun t s L' hS hv' hp ρ2 σ2 he => svP_ok (hbs ρ2 σ2 he) t s L' hS (hvs L' hv' (prF_ok hp) ρ2 σ2 he)⟩
  · have := H.still_alV s0 hi
    have : Nat.blt i g.v0 = true := by rw [Nat.blt_eq, e2]; exact this
    simp [subE, Gm.f, this, X.den]
  · have := H.still_alB s0 hb
    have : Nat.blt b g.b0 = true := by rw [Nat.blt_eq, e1]; exact this
    simp [Gm.fb, this]
  · refine ⟨⟨he.f.trans hr.ip.1, he.p.trans hr.ip.2⟩, hr.lay, hr.below, hr.size, fun b k hk => ?_, fun b c k l hb hcc ok ol e => ?_, fun c hx => ?_⟩
    · obtain ⟨a1, s, p, a2, a3, a4⟩ := hpP_ok hL b k hk
      exact blP_ok (hbs ρ2 σ2 he) a1 a3 (fun q hq => hvs L h2 hL1 ρ2 σ2 he q (a4 q hq)) (hr.blk _ _ a2)
    · obtain ⟨b1, s, p, b2, b3, _⟩ := hpP_ok hL b k hb
      obtain ⟨c1, s', p', c2, c3, _⟩ := hpP_ok hL c l hcc
      have own : ∀ {k s : Blk} {p : Prs}, blP T.nb g.fb k s = some p → k.own = true → s.own = true := by
        intro k s p hb hk
        cases k <;> cases s <;> first | rfl | (simp only [blP, reduceCtorEq] at hb; done) | skip
        obtain ⟨h1, _⟩ := bnd hb
        simp only [Bool.and_eq_true, beq_iff_eq] at h1
        simp only [Blk.own] at hk ⊢
        rw [← h1.1]; exact hk
      rw [hbs _ _ he _ b1, hbs _ _ he _ c1] at e
      have := hr.apart _ _ _ _ b2 c2 (own b3 ok) (own c3 ol) e
      exact inj_ok hin _ (fget_mem hb) _ (fget_mem hcc) this
    · exact (Fact.ok_vs he.f.symm he.p.symm (fun i hi => (he.v i (Or.inl (by simpa [blt', Nat.blt_eq] using hi))).symm) (hfs c hx)).1 (hFs c hx)
/-- frames. -/
def chkF (T : H) (g : Gm) (fr : List (Nat × SV)) : List (Nat × SV) → Option (List Fact)
  | [] => some []
  | (i, t) :: r => (fget fr i).bind fun s => (svP T.nb g.fb t s).bind fun L => bif prVs T.nv L then (chkF T g fr r).map fun q => prF g.f L ++ q else none
theorem chkF_ok {T : H} {g : Gm} {fr : List (Nat × SV)} : ∀ {l : List (Nat × SV)} {F : List Fact}, chkF T g fr l = some F → ∀ i t, fget l i = some t → ∃ s L, fget fr i = some s ∧ svP T.nb g.fb t s = some L ∧ prVs T.nv L = true ∧ ∀ c ∈ prF g.f L, c ∈ F
  | [], F, h, i, t, hi => by cases hi
  | (j, u) :: r, F, h, i, t, hi => by
    simp only [chkF] at h
    obtain ⟨s, h1, h⟩ := bind1 h
    obtain ⟨L, h2, h⟩ := bind1 h
    obtain ⟨h3, h⟩ := bndo h
    rw [Option.map_eq_some_iff] at h
    obtain ⟨q, h4, rfl⟩ := h
    simp only [fget_cons] at hi
    cases hc : Nat.beq j i with
    | true =>
      simp only [hc, cond_true, Option.some.injEq] at hi
      subst hi
      rw [← beq_true.1 hc]
      exact ⟨s, L, h1, h2, h3, fun c hc => List.mem_append_left _ hc⟩
    | false =>
      simp only [hc, cond_false] at hi
      obtain ⟨s', L', a1, a2, a3, a4⟩ := chkF_ok h4 i t hi
      exact ⟨s', L', a1, a2, a3, fun c hc => List.mem_append_right _ (a4 c hc)⟩
def genSt (h0 : H) (T st : St) (g : Gm) : Option (List Fact) :=
  bif Nat.beq T.n st.n then (chkH h0 T.h st.h g).bind fun F => (chkF T.h g st.fr T.fr).map fun G => F ++ G else none
theorem genSt_ok {w0 : W0} {h0 : H} {T st : St} {g : Gm} {F : List Fact} (hc : genSt h0 T st g = some F) {B : Nat} {ρ : Env} {σ : Pl} {w : World} {a : Act} (hr : HOk w0 B ρ σ st.h w) (hf : FrOk ρ σ st.fr st.n a) (hF : ∀ c ∈ F, c.ok ρ) :
    Ext h0 ρ (subE g.f ρ) σ (fun b => σ (g.fb b)) ∧ h0.le T.h ∧ HRep w0 B (subE g.f ρ) (fun b => σ (g.fb b)) T.h w ∧ FRep (subE g.f ρ) (fun b => σ (g.fb b)) T.h T.fr T.n a := by
  unfold genSt at hc
  obtain ⟨hn, hc⟩ := bndo hc
  obtain ⟨F1, h1, hc⟩ := bind1 hc
  rw [Option.map_eq_some_iff] at hc
  obtain ⟨F2, h2, rfl⟩ := hc
  obtain ⟨k1, k2, k3, k4⟩ := gen_core h1 hr fun c hx => hF c (List.mem_append_left _ hx)
  refine ⟨k1, k2, k3, fun ρ2 σ2 he => ⟨by rw [beq_true.1 hn]; exact hf.size, fun i t hi => ?_, hf.defers⟩⟩
  obtain ⟨s, L, a1, a2, a3, a4⟩ := chkF_ok h2 i t hi
  rw [hf.get i s a1, k4 t s L a2 a3 (fun c hx => hF c (List.mem_append_right _ (a4 c hx))) ρ2 σ2 he]

/-! Finding a putting (nothing here is trusted). -/
structure Bd where
  vs : List (Nat × X)
  bs : List (Nat × Nat)
def Bd.x (v0 : Nat) : X → X → Bd → Bd
  | .v i, s, d => bif Nat.blt i v0 then d else match fget d.vs i with | some _ => d | none => { d with vs := (i, s) :: d.vs }
  | .u p x, .u q y, d => bif decide (p = q) then Bd.x v0 x y d else d
  | .o p x y, .o q x' y', d => bif decide (p = q) then Bd.x v0 y y' (Bd.x v0 x x' d) else d
  | .c p x y z, .c q x' y' z', d => bif decide (p = q) then Bd.x v0 z z' (Bd.x v0 y y' (Bd.x v0 x x' d)) else d
  | _, _, d => d
def Bd.b (b0 b c : Nat) (d : Bd) : Bd := bif Nat.blt b b0 then d else match fget d.bs b with | some _ => d | none => { d with bs := (b, c) :: d.bs }
def Bd.s (b0 v0 : Nat) : SV → SV → Bd → Bd
  | .bool x, .bool y, d | .int _ x, .int _ y, d | .str x, .str y, d => Bd.x v0 x y d
  | .ptr a r _ _, .ptr b s _ _, d => Bd.x v0 r s (Bd.b b0 a b d)
  | .slice a _ r _ l c, .slice b _ s _ n e, d => Bd.x v0 c e (Bd.x v0 l n (Bd.x v0 r s (Bd.b b0 a b d)))
  | .map a, .map b, d => Bd.b b0 a b d
  | .fn _ l, .fn _ n, d => all l n d
  | .iface _ v, .iface _ w, d => Bd.s b0 v0 v w d
  | .agg l, .agg n, d => all l n d
  | .tuple l, .tuple n, d => all l n d
  | _, _, d => d
where
  all : List SV → List SV → Bd → Bd
    | a :: x, b :: y, d => all x y (Bd.s b0 v0 a b d)
    | _, _, d => d
def Bd.k (b0 v0 : Nat) : Blk → Blk → Bd → Bd
  | .cells l _ t, .cells n _ u, d => Bd.s.all b0 v0 l n (Bd.x v0 t u d)
  | .rows _ _ x _ t, .rows _ _ y _ u, d => Bd.x v0 x y (Bd.x v0 t u d)
  | .map _ m _, .map _ n _, d => Bd.x v0 m n d
  | _, _, d => d
def Bd.hp (b0 v0 : Nat) (hs : List (Nat × Blk)) : List (Nat × Blk) → Bd → Bd
  | [], d => d
  | (b, k) :: r, d => Bd.hp b0 v0 hs r (match fget hs (bif Nat.blt b b0 then b else (fget d.bs b).getD b) with | some s => Bd.k b0 v0 k s d | none => d)
def Bd.fr (b0 v0 : Nat) (fr : List (Nat × SV)) : List (Nat × SV) → Bd → Bd
  | [], d => d
  | (i, t) :: r, d => Bd.fr b0 v0 fr r (match fget fr i with | some s => Bd.s b0 v0 t s d | none => d)
def upto (n : Nat) : List Nat := List.range n
def Bd.gm (h0 T : H) (d : Bd) : Gm :=
  ⟨h0.nb, h0.nv, (upto (T.nv - h0.nv)).map fun i => (fget d.vs (h0.nv + i)).getD (.n 0), (upto (T.nb - h0.nb)).map fun i => (fget d.bs (h0.nb + i)).getD (h0.nb + i)⟩
def infer (h0 : H) (T st : St) (gh : List (Nat × X)) : Gm :=
  let d := Bd.fr h0.nb h0.nv st.fr T.fr ⟨gh, []⟩
  let d := Bd.hp h0.nb h0.nv st.h.hp T.h.hp d
  let d := Bd.hp h0.nb h0.nv st.h.hp T.h.hp d
  let d := Bd.hp h0.nb h0.nv st.h.hp T.h.hp d
  Bd.gm h0 T.h d
end Go.SE
end
