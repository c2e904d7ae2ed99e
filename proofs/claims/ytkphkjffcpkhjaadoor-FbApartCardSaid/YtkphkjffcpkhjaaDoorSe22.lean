import Derived.Test.YtkphkjffcpkhjaaDoorSe17
/-! The symbolic executor: putting expressions for variables; one state as a case of another. -/
noncomputable section
set_option linter.unusedSimpArgs false
set_option linter.unusedVariables false
namespace Go.SE
open Go.RowKit (Below)

/-! Exact simplifications. -/
def sU : O1 → X → X
  | .not, .t b => .t (!b)
  | .wrap k, .n v => .n (kw k v)
  | .b2i, .t b => .n (bif b then 1 else 0)
  | .fld 0, .o .cons a _ => a
  | .fld (j + 1), .o .cons _ b => sU (.fld j) b
  | .len, x => mLen x
  | o, a => .u o a
theorem sU_den (ρ : Env) : ∀ (o : O1) (a : X), (sU o a).den ρ = o.den ρ (a.den ρ) := by
  intro o a
  fun_cases sU o a <;> (try rfl)
  · simp [X.den, O1.den, kw_eq]
  · rename_i b; cases b <;> rfl
  · simp only [X.den, O1.den, O2.den, asL_l]
    rw [sU_den]
    simp [O1.den]
  · exact mLen_den' ρ _
def sO : O2 → X → X → X
  | .add, .n a, .n b => .n (a + b)
  | .sub, .n a, .n b => .n (a - b)
  | .mul, .n a, .n b => .n (a * b)
  | .lt, .n a, .n b => .t (ilt a b)
  | .le, .n a, .n b => .t (ile a b)
  | .eq, .n a, .n b => .t (ieq a b)
  | .get, a, b => mGet a b
  | o, a, b => .o o a b
theorem sO_den (ρ : Env) (o : O2) (a b : X) : (sO o a b).den ρ = o.den ρ (a.den ρ) (b.den ρ) := by
  unfold sO
  split <;> simp [X.den, O2.den, mGet_den]

def X.sub (f : Nat → X) : X → X
  | .v i => f i
  | .u q x => sU q (x.sub f)
  | .o q x y => sO q (x.sub f) (y.sub f)
  | .c q x y z => .c q (x.sub f) (y.sub f) (z.sub f)
  | x => x
/-- the environment behind a putting. -/
def subE (f : Nat → X) (ρ : Env) : Env := ⟨fun i => (f i).den ρ, ρ.f, ρ.p⟩
theorem O1.den_f {ρ ρ' : Env} (h : ρ.f = ρ'.f) (o : O1) (a : U) : o.den ρ a = o.den ρ' a := by cases o <;> simp [O1.den, h]
theorem O2.den_f {ρ ρ' : Env} (h : ρ.f = ρ'.f) (o : O2) (a b : U) : o.den ρ a b = o.den ρ' a b := by cases o <;> simp [O2.den, h]
theorem O3.den_f {ρ ρ' : Env} (h : ρ.f = ρ'.f) (o : O3) (a b c : U) : o.den ρ a b c = o.den ρ' a b c := by cases o <;> simp [O3.den, h]
theorem X.den_sub (f : Nat → X) (ρ : Env) (x : X) : (x.sub f).den ρ = x.den (subE f ρ) := by
  induction x with
  | v i => rfl
  | u q x ih => simp only [X.sub, sU_den, X.den, ih]; exact O1.den_f rfl _ _
  | o q x y ih1 ih2 => simp only [X.sub, sO_den, X.den, ih1, ih2]; exact O2.den_f rfl _ _ _
  | c q x y z ih1 ih2 ih3 => simp only [X.sub, X.den, ih1, ih2, ih3]; exact O3.den_f rfl _ _ _ _
  | n _ => rfl
  | t _ => rfl
  | s _ => rfl
  | nil => rfl
/-- all variables are of some kind. -/
def X.vs (p : Nat → Bool) : X → Bool
  | .v i => p i
  | .u _ x => x.vs p
  | .o _ x y => x.vs p && y.vs p
  | .c _ x y z => x.vs p && (y.vs p && z.vs p)
  | _ => true
theorem X.den_vs {p : Nat → Bool} {ρ ρ' : Env} (hf : ρ.f = ρ'.f) (hv : ∀ i, p i = true → ρ.v i = ρ'.v i) {x : X} : x.vs p = true → x.den ρ = x.den ρ' := by
  intro h
  induction x with
  | v i => exact hv i h
  | u q x ih =>
    simp only [X.vs] at h
    simp only [X.den, ih h]
    exact O1.den_f hf _ _
  | o q x y ih1 ih2 =>
    simp only [X.vs, Bool.and_eq_true] at h
    simp only [X.den, ih1 h.1, ih2 h.2]
    exact O2.den_f hf _ _ _
  | c q x y z ih1 ih2 ih3 =>
    simp only [X.vs, Bool.and_eq_true] at h
    simp only [X.den, ih1 h.1, ih2 h.2.1, ih3 h.2.2]
    exact O3.den_f hf _ _ _ _
  | n _ => rfl
  | t _ => rfl
  | s _ => rfl
  | nil => rfl

/-! A symbolic value as a case of another: what must be the same. -/
abbrev Prs := List (X × X)
def svP (m : Nat) (fb : Nat → Nat) : SV → SV → Option Prs
  | .bool a, .bool b => some [(a, b)]
  | .int k a, .int l b => bif decide (k = l) then some [(a, b)] else none
  | .str a, .str b => some [(a, b)]
  | .ptr a r w j, .ptr b s v i => bif Nat.blt a m && (Nat.beq (fb a) b && (Nat.beq w v && Nat.beq j i)) then some [(r, s)] else none
  | .nilp, .nilp => some []
  | .gp a r, .gp b s => bif Nat.beq a b then some [(r, s)] else none
  | .slice a j r w l c, .slice b i s v n d => bif Nat.blt a m && (Nat.beq (fb a) b && (Nat.beq w v && Nat.beq j i)) then some [(r, s), (l, n), (c, d)] else none
  | .nils, .nils => some []
  | .map a, .map b => bif Nat.blt a m && Nat.beq (fb a) b then some [] else none
  | .nilmap, .nilmap => some []
  | .fn f l, .fn g n => bif Nat.beq f g then all l n else none
  | .nilfn, .nilfn => some []
  | .iface t v, .iface u w => bif Nat.beq t u then svP m fb v w else none
  | .niface, .niface => some []
  | .agg l, .agg n => all l n
  | .tuple l, .tuple n => all l n
  | _, _ => none
where
  all : List SV → List SV → Option Prs
    | [], [] => some []
    | a :: x, b :: y => (svP m fb a b).bind fun p => (all x y).map fun q => p ++ q
    | _, _ => none
theorem bnd {α : Type} {c : Bool} {x y : α} (h : (bif c then some x else none) = some y) : c = true ∧ x = y := by
  cases c <;> simp_all
theorem bndo {α : Type} {c : Bool} {x : Option α} {y : α} (h : (bif c then x else none) = some y) : c = true ∧ x = some y := by
  cases c <;> simp_all
mutual
theorem svP_ok {m : Nat} {fb : Nat → Nat} {ρ ρ' : Env} {σ σ' : Pl} (hb : ∀ b, b < m → σ' b = σ (fb b)) : ∀ (t s : SV) (L : Prs), svP m fb t s = some L → (∀ q ∈ L, q.1.den ρ' = q.2.den ρ) → t.val ρ' σ' = s.val ρ σ
  | .bool a, s, L, h, hp => by
    cases s <;> simp only [svP, reduceCtorEq, Option.some.injEq] at h
    subst h
    simp only [SV.val, hp _ List.mem_cons_self]
  | .int k a, s, L, h, hp => by
    cases s <;> simp only [svP, reduceCtorEq] at h
    obtain ⟨h1, rfl⟩ := bnd h
    simp only [decide_eq_true_eq] at h1
    simp only [SV.val, hp _ List.mem_cons_self, h1]
  | .str a, s, L, h, hp => by
    cases s <;> simp only [svP, reduceCtorEq, Option.some.injEq] at h
    subst h
    simp only [SV.val, hp _ List.mem_cons_self]
  | .ptr a r w j, s, L, h, hp => by
    cases s <;> simp only [svP, reduceCtorEq] at h
    obtain ⟨h1, rfl⟩ := bnd h
    simp only [Bool.and_eq_true, beq_true, Nat.blt_eq] at h1
    obtain ⟨h1, h2, h3, h4⟩ := h1
    have := hp _ List.mem_cons_self
    simp only at this
    simp only [SV.val, adr, hb _ h1, h2, h3, h4, X.nat, this]
  | .gp a r, s, L, h, hp => by
    cases s <;> simp only [svP, reduceCtorEq] at h
    obtain ⟨h1, rfl⟩ := bnd h
    have := hp _ List.mem_cons_self
    simp only at this
    simp only [SV.val, beq_true.1 h1, X.nat, this]
  | .nilp, s, L, h, hp => by cases s <;> simp only [svP, reduceCtorEq] at h; rfl
  | .slice a j r w l c, s, L, h, hp => by
    cases s <;> simp only [svP, reduceCtorEq] at h
    obtain ⟨h1, rfl⟩ := bnd h
    simp only [Bool.and_eq_true, beq_true, Nat.blt_eq] at h1
    obtain ⟨h1, h2, h3, h4⟩ := h1
    have e1 := hp _ List.mem_cons_self
    have e2 := hp _ (List.mem_cons_of_mem _ List.mem_cons_self)
    have e3 := hp _ (List.mem_cons_of_mem _ (List.mem_cons_of_mem _ List.mem_cons_self))
    simp only at e1 e2 e3
    simp only [SV.val, adr, hb _ h1, h2, h3, h4, X.nat, e1, e2, e3]
  | .nils, s, L, h, hp => by cases s <;> simp only [svP, reduceCtorEq] at h; rfl
  | .map a, s, L, h, hp => by
    cases s <;> simp only [svP, reduceCtorEq] at h
    obtain ⟨h1, _⟩ := bnd h
    simp only [Bool.and_eq_true, beq_true, Nat.blt_eq] at h1
    simp only [SV.val, hb _ h1.1, h1.2]
  | .nilmap, s, L, h, hp => by cases s <;> simp only [svP, reduceCtorEq] at h; rfl
  | .fn f l, s, L, h, hp => by
    cases s <;> simp only [svP, reduceCtorEq] at h
    obtain ⟨h1, h2⟩ := bndo h
    simp only [SV.val, beq_true.1 h1, svP_all hb _ _ _ h2 hp]
  | .nilfn, s, L, h, hp => by cases s <;> simp only [svP, reduceCtorEq] at h; rfl
  | .iface t v, s, L, h, hp => by
    cases s <;> simp only [svP, reduceCtorEq] at h
    obtain ⟨h1, h2⟩ := bndo h
    simp only [SV.val, beq_true.1 h1, svP_ok hb _ _ _ h2 hp]
  | .niface, s, L, h, hp => by cases s <;> simp only [svP, reduceCtorEq] at h; rfl
  | .agg l, s, L, h, hp => by
    cases s <;> simp only [svP, reduceCtorEq] at h
    simp only [SV.val, svP_all hb _ _ _ h hp]
  | .tuple l, s, L, h, hp => by
    cases s <;> simp only [svP, reduceCtorEq] at h
    simp only [SV.val, svP_all hb _ _ _ h hp]
theorem svP_all {m : Nat} {fb : Nat → Nat} {ρ ρ' : Env} {σ σ' : Pl} (hb : ∀ b, b < m → σ' b = σ (fb b)) : ∀ (t s : List SV) (L : Prs), svP.all m fb t s = some L → (∀ q ∈ L, q.1.den ρ' = q.2.den ρ) → SV.val.vals ρ' σ' t = SV.val.vals ρ σ s
  | [], s, L, h, hp => by cases s <;> simp only [svP.all, reduceCtorEq] at h; rfl
  | a :: t, s, L, h, hp => by
    cases s with
    | nil => simp only [svP.all, reduceCtorEq] at h
    | cons b s =>
      simp only [svP.all] at h
      obtain ⟨p, h1, h2⟩ := bind1 h
      rw [Option.map_eq_some_iff] at h2
      obtain ⟨q, h2, rfl⟩ := h2
      simp only [SV.val.vals]
      rw [svP_ok hb _ _ _ h1 fun x hx => hp x (List.mem_append_left _ hx), svP_all hb _ _ _ h2 fun x hx => hp x (List.mem_append_right _ hx)]
end
/-! Blocks. -/
def pfx (m : Nat) (fb : Nat → Nat) : List SV → List SV → Option Prs
  | [], _ => some []
  | a :: x, b :: y => (svP m fb a b).bind fun p => (pfx m fb x y).map fun q => p ++ q
  | _ :: _, [] => none
theorem pfx_ok {m : Nat} {fb : Nat → Nat} {ρ ρ' : Env} {σ σ' : Pl} (hb : ∀ b, b < m → σ' b = σ (fb b)) : ∀ {t s : List SV} {L : Prs}, pfx m fb t s = some L → (∀ q ∈ L, q.1.den ρ' = q.2.den ρ) →
    ∀ (i : Nat) (v : SV), t[i]? = some v → ∃ u, s[i]? = some u ∧ v.val ρ' σ' = u.val ρ σ
  | [], s, L, h, hp, i, v, hv => by simp at hv
  | a :: t, [], L, h, hp, i, v, hv => by cases h
  | a :: t, b :: s, L, h, hp, i, v, hv => by
    simp only [pfx] at h
    obtain ⟨p, h1, h2⟩ := bind1 h
    rw [Option.map_eq_some_iff] at h2
    obtain ⟨q, h2, rfl⟩ := h2
    cases i with
    | zero =>
      simp only [List.getElem?_cons_zero, Option.some.injEq] at hv
      subst hv
      exact ⟨b, rfl, svP_ok hb _ _ _ h1 fun x hx => hp x (List.mem_append_left _ hx)⟩
    | succ i =>
      simp only [List.getElem?_cons_succ] at hv ⊢
      exact pfx_ok hb h2 (fun x hx => hp x (List.mem_append_right _ hx)) i v hv
def blP (m : Nat) (fb : Nat → Nat) : Blk → Blk → Option Prs
  | .cells l e t, .cells n f u => bif Nat.beq e f then (pfx m fb l n).map fun p => (t, u) :: p else none
  | .rows o ks x e t, .rows p ls y f u => bif (o == p) && (Nat.beq e f && decide (ks = ls)) then some [(x, y), (t, u)] else none
  | .map k a [], .map l b _ => bif decide (k = l) then some [(a, b)] else none
  | _, _ => none
theorem blP_ok {m : Nat} {fb : Nat → Nat} {B : Nat} {ρ ρ' : Env} {σ σ' : Pl} {w : World} (hb : ∀ b, b < m → σ' b = σ (fb b)) {b : Nat} (hm : b < m) {t s : Blk} {L : Prs} (h : blP m fb t s = some L) (hp : ∀ q ∈ L, q.1.den ρ' = q.2.den ρ)
    (hs : BlkOk B ρ σ w (fb b) s) : BlkOk B ρ' σ' w b t := by
  have e := hb b hm
  cases t with
  | cells l e1 t =>
    cases s <;> simp only [blP, reduceCtorEq] at h
    rename_i n f u
    obtain ⟨h1, h⟩ := bndo h
    rw [Option.map_eq_some_iff] at h
    obtain ⟨p, h2, rfl⟩ := h
    obtain ⟨k1, k2, c, k3, k4, k5⟩ := hs
    have e4 := hp _ List.mem_cons_self
    simp only at e4
    refine ⟨by rw [e]; exact k1, by rw [e]; exact k2, c, by rw [e, beq_true.1 h1]; exact k3, by rw [k4]; simp only [X.nat, e4], fun i v hv => ?_⟩
    obtain ⟨v', hv', e5⟩ := pfx_ok hb h2 (fun q hq => hp q (List.mem_cons_of_mem _ hq)) i v hv
    rw [e5]; exact k5 i v' hv'
  | rows o ks x e1 t =>
    cases s <;> simp only [blP, reduceCtorEq] at h
    rename_i p ls y f u
    obtain ⟨h1, rfl⟩ := bnd h
    simp only [Bool.and_eq_true, beq_iff_eq, beq_true, decide_eq_true_eq] at h1
    obtain ⟨rfl, rfl, rfl⟩ := h1
    have e3 := hp _ List.mem_cons_self
    have e4 := hp _ (List.mem_cons_of_mem _ List.mem_cons_self)
    simp only at e3 e4
    cases o with
    | true =>
      obtain ⟨k1, k2, c, k3, k4, k5⟩ := hs
      exact ⟨by rw [e]; exact k1, by rw [e]; exact k2, c, by rw [e]; exact k3, by rw [k4]; simp only [X.nat, e4], by rw [e3]; exact k5⟩
    | false =>
      obtain ⟨k1, k2⟩ := hs
      exact ⟨by rw [e]; exact k1, by rw [e3]; simp only [adr, e] at k2 ⊢; exact k2⟩
  | map k a st =>
    cases s <;> cases st <;> simp only [blP, reduceCtorEq] at h
    rename_i l b2 st2
    · obtain ⟨h1, rfl⟩ := bnd h
      simp only [decide_eq_true_eq] at h1
      subst h1
      obtain ⟨k1, k2, es, ck, k3, L, k4⟩ := hs
      have e3 := hp _ List.mem_cons_self
      simp only at e3
      refine ⟨by rw [e]; exact k1, by rw [e]; exact k2, es, ck, by rw [e]; exact k3, L, ?_⟩
      exact ⟨k4.es, k4.keys, k4.borns, k4.born, by rw [e3]; exact k4.has, by rw [e3]; exact k4.not, by simp⟩
def hpP (m : Nat) (fb : Nat → Nat) (hs : List (Nat × Blk)) : List (Nat × Blk) → Option Prs
  | [] => some []
  | (b, k) :: r => bif Nat.blt b m then ((fget hs (fb b)).bind fun s => (blP m fb k s).bind fun p => (hpP m fb hs r).map fun q => p ++ q) else none
theorem hpP_ok {m : Nat} {fb : Nat → Nat} {hs : List (Nat × Blk)} : ∀ {ht : List (Nat × Blk)} {L : Prs}, hpP m fb hs ht = some L → ∀ b k, fget ht b = some k → b < m ∧ ∃ s p, fget hs (fb b) = some s ∧ blP m fb k s = some p ∧ ∀ q ∈ p, q ∈ L
  | [], L, h, b, k, hk => by cases hk
  | (c, l) :: r, L, h, b, k, hk => by
    simp only [hpP] at h
    obtain ⟨h1, h⟩ := bndo h
    obtain ⟨s, h2, h⟩ := bind1 h
    obtain ⟨p, h3, h⟩ := bind1 h
    rw [Option.map_eq_some_iff] at h
    obtain ⟨q, h4, rfl⟩ := h
    simp only [fget_cons] at hk
    cases hc : Nat.beq c b with
    | true =>
      simp only [hc, cond_true, Option.some.injEq] at hk
      subst hk
      have := beq_true.1 hc
      subst this
      exact ⟨by simpa [Nat.blt_eq] using h1, s, p, h2, h3, fun x hx => List.mem_append_left _ hx⟩
    | false =>
      simp only [hc, cond_false] at hk
      obtain ⟨a1, s', p', a2, a3, a4⟩ := hpP_ok h4 b k hk
      exact ⟨a1, s', p', a2, a3, fun x hx => List.mem_append_right _ (a4 x hx)⟩
def inj (fb : Nat → Nat) : List (Nat × Blk) → Bool
  | [] => true
  | (b, _) :: r => r.all (fun q => Nat.beq q.1 b || !Nat.beq (fb q.1) (fb b)) && inj fb r
theorem fget_mem {α : Type} {l : List (Nat × α)} {b : Nat} {k : α} (h : fget l b = some k) : (b, k) ∈ l := by
  induction l with
  | nil => cases h
  | cons p r ih =>
    obtain ⟨c, u⟩ := p
    simp only [fget_cons] at h
    cases hc : Nat.beq c b with
    | true =>
      simp only [hc, cond_true, Option.some.injEq] at h
      subst h
      rw [beq_true.1 hc]; exact List.mem_cons_self
    | false => simp only [hc, cond_false] at h; exact List.mem_cons_of_mem _ (ih h)
theorem inj_ok {fb : Nat → Nat} : ∀ {l : List (Nat × Blk)}, inj fb l = true → ∀ p ∈ l, ∀ q ∈ l, fb p.1 = fb q.1 → p.1 = q.1
  | [], _, p, hp, _, _, _ => by cases hp
  | (b, k) :: r, h, p, hp, q, hq, e => by
    simp only [inj, Bool.and_eq_true, List.all_eq_true, Bool.or_eq_true, beq_true, Bool.not_eq_true', beq_false] at h
    simp only [List.mem_cons] at hp hq
    rcases hp with rfl | hp <;> rcases hq with rfl | hq
    · rfl
    · rcases h.1 q hq with h1 | h1
      · exact h1.symm
      · exact absurd e.symm h1
    · rcases h.1 p hp with h1 | h1
      · exact h1
      · exact absurd e h1
    · exact inj_ok h.2 p hp q hq e
end Go.SE
end
