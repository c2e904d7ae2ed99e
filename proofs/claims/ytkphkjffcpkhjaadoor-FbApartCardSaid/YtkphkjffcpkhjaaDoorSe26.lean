import Derived.Test.YtkphkjffcpkhjaaDoorSe23
import Derived.Test.YtkphkjffcpkhjaaDoorSe25
/-! The symbolic executor: contracts, and outcomes brought to templates. -/
noncomputable section
set_option linter.unusedSimpArgs false
set_option linter.unusedVariables false
namespace Go.SE
open Go.RowKit (Below)
variable {P : Program} {I : Interp}

/-- A contract: the arguments over a memory of its own variables and views; the outcomes. -/
structure Ctr where
  args : List SV
  h : H
  outs : List (SV × H)
/-! Outcomes brought to templates. -/
def mergeK (h0 : H) : List (SV × H) → List (SV × H) → Option (List Obl)
  | [], [] => some []
  | r :: rs, t :: ts =>
    let T : St := ⟨[(0, t.1)], 1, t.2⟩
    let S : St := ⟨[(0, r.1)], 1, r.2⟩
    let g := infer h0 T S []
    (chkH h0 t.2 r.2 g).bind fun F => (svP t.2.nb g.fb t.1 r.1).bind fun L => bif prVs t.2.nv L then (mergeK h0 rs ts).map fun ob => fob r.2.fs (F ++ prF g.f L) ++ ob else none
  | _, _ => none
theorem mergeK_mem {h0 : H} : ∀ {rs ts : List (SV × H)} {ob : List Obl}, mergeK h0 rs ts = some ob → ∀ r ∈ rs, ∃ t ∈ ts, ∃ g F L, chkH h0 t.2 r.2 g = some F ∧ svP t.2.nb g.fb t.1 r.1 = some L ∧ prVs t.2.nv L = true ∧
    ∀ o ∈ fob r.2.fs (F ++ prF g.f L), o ∈ ob
  | [], [], ob, h => by simp
  | r :: rs, t :: ts, ob, h => by
    simp only [mergeK] at h
    obtain ⟨F, h1, h⟩ := bind1 h
    obtain ⟨L, h2, h⟩ := bind1 h
    obtain ⟨h3, h⟩ := bndo h
    rw [Option.map_eq_some_iff] at h
    obtain ⟨ob', h4, rfl⟩ := h
    intro x hx
    simp only [List.mem_cons] at hx
    rcases hx with rfl | hx
    · exact ⟨t, List.mem_cons_self, _, F, L, h1, h2, h3, fun o ho => List.mem_append_left _ ho⟩
    · obtain ⟨t', ht, g, F', L', a1, a2, a3, a4⟩ := mergeK_mem h4 x hx
      exact ⟨t', List.mem_cons_of_mem _ ht, g, F', L', a1, a2, a3, fun o ho => List.mem_append_right _ (a4 o ho)⟩
  | [], _ :: _, ob, h => by cases h
  | _ :: _, [], ob, h => by cases h
/-! Renaming. -/
def SV.ren (fx : Nat → X) (fb : Nat → Nat) : SV → SV
  | .bool x => .bool (x.sub fx)
  | .int k x => .int k (x.sub fx)
  | .str x => .str (x.sub fx)
  | .ptr b r w j => .ptr (fb b) (r.sub fx) w j
  | .gp g r => .gp g (r.sub fx)
  | .slice b j r w l c => .slice (fb b) j (r.sub fx) w (l.sub fx) (c.sub fx)
  | .map b => .map (fb b)
  | .fn f l => .fn f (all l)
  | .iface t v => .iface t (v.ren fx fb)
  | .agg l => .agg (all l)
  | .tuple l => .tuple (all l)
  | v => v
where
  all : List SV → List SV
    | [] => []
    | a :: l => a.ren fx fb :: all l
def Blk.ren (fx : Nat → X) (fb : Nat → Nat) : Blk → Blk
  | .cells l e t => .cells (SV.ren.all fx fb l) e (t.sub fx)
  | .rows o ks x e t => .rows o ks (x.sub fx) e (t.sub fx)
  | .map k m _ => .map k (m.sub fx) []
def prOk (n : Nat) (fx : Nat → X) (L : Prs) : Bool := L.all fun q => q.1.vs (blt' n) && xeq (q.1.sub fx) q.2
/-- a block and its renamed one: what must be the same. -/
def blQ (m : Nat) (fb : Nat → Nat) : Blk → Blk → Option Prs
  | .cells l e t, .cells n f u => bif Nat.beq e f && Nat.beq l.length n.length then (pfx m fb l n).map fun p => (t, u) :: p else none
  | .rows o ks x e t, .rows p ls y f u => bif (o == true) && ((p == true) && (Nat.beq e f && decide (ks = ls))) then some [(x, y), (t, u)] else none
  | .map k a _, .map l b [] => bif decide (k = l) then some [(a, b)] else none
  | _, _ => none
theorem blQ_ok {m : Nat} {fb : Nat → Nat} {B B' : Nat} (hB : B' ≤ B) {ρ ρ' : Env} {σ σ' : Pl} {w : World} (hb : ∀ b, b < m → σ' b = σ (fb b)) {b : Nat} (hm : b < m) {t s : Blk} {L : Prs} (h : blQ m fb t s = some L) (hp : ∀ q ∈ L, q.1.den ρ' = q.2.den ρ)
    (hs : BlkOk B ρ' σ' w b t) : BlkOk B' ρ σ w (fb b) s ∧ B ≤ (σ (fb b)).1 := by
  have e := hb b hm
  cases t with
  | cells l e1 t =>
    cases s <;> simp only [blQ, reduceCtorEq] at h
    rename_i n f u
    obtain ⟨h1, h⟩ := bndo h
    simp only [Bool.and_eq_true, beq_true] at h1
    rw [Option.map_eq_some_iff] at h
    obtain ⟨p, h2, rfl⟩ := h
    obtain ⟨k1, k2, c, k3, k4, k5⟩ := hs
    have e4 := hp _ List.mem_cons_self
    simp only at e4
    rw [e] at k1 k2 k3
    refine ⟨⟨Nat.le_trans hB k1, k2, c, by rw [← h1.1]; exact k3, by rw [k4]; simp only [X.nat, e4], fun i v hv => ?_⟩, k1⟩
    have hi : i < l.length := by rw [h1.2]; exact (List.getElem?_eq_some_iff.1 hv).1
    obtain ⟨v', hv', e5⟩ := pfx_ok hb h2 (fun q hq => hp q (List.mem_cons_of_mem _ hq)) i _ (List.getElem?_eq_getElem hi)
    rw [hv] at hv'
    cases hv'
    rw [← e5]; exact k5 i _ (List.getElem?_eq_getElem hi)
  | rows o ks x e1 t =>
    cases s <;> simp only [blQ, reduceCtorEq] at h
    rename_i p ls y f u
    obtain ⟨h1, rfl⟩ := bnd h
    simp only [Bool.and_eq_true, beq_iff_eq, beq_true, decide_eq_true_eq] at h1
    obtain ⟨rfl, rfl, rfl, rfl⟩ := h1
    have e3 := hp _ List.mem_cons_self
    have e4 := hp _ (List.mem_cons_of_mem _ List.mem_cons_self)
    simp only at e3 e4
    obtain ⟨k1, k2, c, k3, k4, k5⟩ := hs
    rw [e] at k1 k2 k3
    exact ⟨⟨Nat.le_trans hB k1, k2, c, k3, by rw [k4]; simp only [X.nat, e4], by rw [← e3]; exact k5⟩, k1⟩
  | map k a st =>
    cases s <;> simp only [blQ, reduceCtorEq] at h
    rename_i l b2 st2
    cases st2 with
    | cons _ _ => simp at h
    | nil =>
      simp only at h
      obtain ⟨h1, rfl⟩ := bnd h
      simp only [decide_eq_true_eq] at h1
      subst h1
      obtain ⟨k1, k2, es, ck, k3, L, k4⟩ := hs
      have e3 := hp _ List.mem_cons_self
      simp only at e3
      rw [e] at k1 k2 k3
      exact ⟨⟨Nat.le_trans hB k1, k2, es, ck, k3, L, ⟨k4.es, k4.keys, k4.borns, k4.born, by rw [← e3]; exact k4.has, by rw [← e3]; exact k4.not, by simp⟩⟩, k1⟩
def newsK (m n v0 : Nat) (fx : Nat → X) (fb : Nat → Nat) (hs : List (Nat × Blk)) : List (Nat × Blk) → Option (List (Nat × Blk))
  | [] => some []
  | (b, _) :: r => bif Nat.blt b v0 then newsK m n v0 fx fb hs r else
    bif Nat.blt b m then (fget hs b).bind fun k => (blQ m fb k (k.ren fx fb)).bind fun L => bif prOk n fx L then (newsK m n v0 fx fb hs r).map fun q => (fb b, k.ren fx fb) :: q else none else none
theorem newsK_ok {m n v0 : Nat} {fx : Nat → X} {fb : Nat → Nat} {hs : List (Nat × Blk)} : ∀ {l r : List (Nat × Blk)}, newsK m n v0 fx fb hs l = some r → ∀ c k', fget r c = some k' →
    ∃ b k, fget hs b = some k ∧ v0 ≤ b ∧ b < m ∧ c = fb b ∧ k' = k.ren fx fb ∧ ∃ L, blQ m fb k k' = some L ∧ prOk n fx L = true
  | [], r, h, c, k', hc => by simp only [newsK, Option.some.injEq] at h; subst h; cases hc
  | (b, k0) :: l, r, h, c, k', hc => by
    simp only [newsK] at h
    cases hb : Nat.blt b v0 with
    | true =>
      simp only [hb, cond_true] at h
      exact newsK_ok h c k' hc
    | false =>
      simp only [hb, cond_false] at h
      obtain ⟨h1, h⟩ := bndo h
      obtain ⟨k, h0, h⟩ := bind1 h
      obtain ⟨L, h2, h⟩ := bind1 h
      obtain ⟨h3, h⟩ := bndo h
      rw [Option.map_eq_some_iff] at h
      obtain ⟨q, h4, rfl⟩ := h
      simp only [fget_cons] at hc
      cases he : Nat.beq (fb b) c with
      | true =>
        simp only [he, cond_true, Option.some.injEq] at hc
        subst hc
        refine ⟨b, k, h0, ?_, by simpa [Nat.blt_eq] using h1, (beq_true.1 he).symm, rfl, L, h2, h3⟩
        rw [Bool.eq_false_iff, ne_eq, Nat.blt_eq] at hb; omega
      | false =>
        simp only [he, cond_false] at hc
        exact newsK_ok h4 c k' hc
theorem fget_append {α : Type} (a b : List (Nat × α)) (i : Nat) : fget (a ++ b) i = (fget a i).or (fget b i) := by
  induction a with
  | nil => rfl
  | cons p r ih =>
    obtain ⟨k, v⟩ := p
    simp only [List.cons_append, fget_cons]
    cases Nat.beq k i <;> simp [ih]
def ofs (k : CK) : List SV → Option (List X)
  | [] => some []
  | s :: l => (k.of s).bind fun x => (ofs k l).map fun r => x :: r
theorem ofs_ok {k : CK} : ∀ {l : List SV} {xs : List X}, ofs k l = some xs → ∀ (ρ : Env) (σ : Pl), xs.length = l.length ∧ ∀ (j : Nat) (x : X), xs[j]? = some x → ∃ s, l[j]? = some s ∧ s.val ρ σ = k.val (x.den ρ)
  | [], xs, h, ρ, σ => by simp only [ofs, Option.some.injEq] at h; subst h; simp
  | s :: l, xs, h, ρ, σ => by
    simp only [ofs] at h
    obtain ⟨x, h1, h⟩ := bind1 h
    rw [Option.map_eq_some_iff] at h
    obtain ⟨r, h2, rfl⟩ := h
    obtain ⟨a1, a2⟩ := ofs_ok h2 ρ σ
    refine ⟨by simp [a1], fun j y hy => ?_⟩
    cases j with
    | zero =>
      simp only [List.getElem?_cons_zero, Option.some.injEq] at hy
      subst hy
      exact ⟨s, rfl, CK.of_ok h1 ρ σ⟩
    | succ j =>
      simp only [List.getElem?_cons_succ] at hy ⊢
      exact a2 j y hy
/-- a block read as rows. -/
def asRows (ks : List CK) : Blk → Option X
  | .rows _ ls y _ _ => bif decide (ks = ls) then some y else none
  | .cells l _ _ => match ks with
    | [k] => (ofs k l).map consL
    | _ => none
  | _ => none
theorem asRows_ok {ks : List CK} {s : Blk} {y : X} (h : asRows ks s = some y) {B : Nat} {ρ : Env} {σ : Pl} {w : World} {b : Nat} (hk : BlkOk B ρ σ w b s) (hB : B ≤ w.heap.size) :
    (σ b).1 < w.heap.size ∧ ∀ (r j : Nat) (k : CK), r < (y.den ρ).asL.length → ks[j]? = some k → w.cell? (adr σ b (r * ks.length + j)) = some (k.val (rowU ks.length ((y.den ρ).asL.getD r default) j)) := by
  cases s with
  | map => cases h
  | rows o ls y' e t =>
    simp only [asRows] at h
    obtain ⟨h1, rfl⟩ := bnd h
    have := of_decide_eq_true h1
    subst this
    cases o with
    | true =>
      obtain ⟨_, h0, c, hc, _, hcl⟩ := hk
      refine ⟨(Array.getElem?_eq_some_iff.1 hc).1, fun r j k hr hj => ?_⟩
      rw [adr_cells hc h0]
      exact hcl r j k hr hj
    | false => exact ⟨Nat.lt_of_lt_of_le hk.1 hB, hk.2⟩
  | cells l e t =>
    simp only [asRows] at h
    split at h
    · rename_i k0
      rw [Option.map_eq_some_iff] at h
      obtain ⟨xs, h1, rfl⟩ := h
      obtain ⟨a1, a2⟩ := ofs_ok h1 ρ σ
      obtain ⟨_, h0, c, hc, _, hcl⟩ := hk
      refine ⟨(Array.getElem?_eq_some_iff.1 hc).1, fun r j k hr hj => ?_⟩
      have hj0 : j = 0 := by
        have := (List.getElem?_eq_some_iff.1 hj).1
        simpa using this
      subst hj0
      simp only [List.getElem?_cons_zero, Option.some.injEq] at hj
      subst hj
      rw [consL_den] at hr ⊢
      simp only [asL_l, List.length_map] at hr
      obtain ⟨s, hs, hv⟩ := a2 r _ (List.getElem?_eq_getElem hr)
      rw [adr_cells hc h0]
      simp only [List.length_cons, List.length_nil, Nat.zero_add, Nat.mul_one, Nat.add_zero]
      rw [hcl r s hs, hv]
      simp [rowU, List.getD_eq_getElem?_getD, hr]
    · cases h
/-- the views of a contract, laid on the caller's rows. -/
def viewsK (g : Gm) (m : Nat) (hs : List (Nat × Blk)) : List (Nat × Blk) → Option Prs
  | [] => some []
  | (b, .rows false ks x _ _) :: r => bif Nat.blt b m then (fget hs (g.fb b)).bind fun s => (asRows ks s).bind fun y => (viewsK g m hs r).map fun q => (x, y) :: q else none
  | _ => none
theorem viewsK_ok {g : Gm} {m : Nat} {hs : List (Nat × Blk)} : ∀ {l : List (Nat × Blk)} {L : Prs}, viewsK g m hs l = some L → ∀ b k, fget l b = some k → b < m ∧ ∃ ks x e t s y, k = .rows false ks x e t ∧ fget hs (g.fb b) = some s ∧ asRows ks s = some y ∧ (x, y) ∈ L
  | [], L, h, b, k, hk => by cases hk
  | (c, l) :: r, L, h, b, k, hk => by
    cases l with
    | cells => simp [viewsK] at h
    | map => simp [viewsK] at h
    | rows own ks x e t =>
      cases own with
      | true => simp [viewsK] at h
      | false =>
        simp only [viewsK] at h
        obtain ⟨h1, h⟩ := bndo h
        obtain ⟨s, h2, h⟩ := bind1 h
        obtain ⟨y, h3, h⟩ := bind1 h
        rw [Option.map_eq_some_iff] at h
        obtain ⟨q, h4, rfl⟩ := h
        simp only [fget_cons] at hk
        cases hc : Nat.beq c b with
        | true =>
          simp only [hc, cond_true, Option.some.injEq] at hk
          subst hk
          rw [← beq_true.1 hc]
          exact ⟨by simpa [Nat.blt_eq] using h1, ks, x, e, t, s, y, rfl, h2, h3, List.mem_cons_self⟩
        | false =>
          simp only [hc, cond_false] at hk
          obtain ⟨a1, ks', x', e1, t1, s1, y1, a2, a3, a4, a5⟩ := viewsK_ok h4 b k hk
          exact ⟨a1, ks', x', e1, t1, s1, y1, a2, a3, a4, List.mem_cons_of_mem _ a5⟩
def Ctr.rx (c : Ctr) (g : Gm) (h : H) (i : Nat) : X := bif Nat.blt i c.h.nv then g.f i else .v (h.nv + (i - c.h.nv))
def Ctr.rb (c : Ctr) (g : Gm) (h : H) (b : Nat) : Nat := bif Nat.blt b c.h.nb then g.fb b else h.nb + (b - c.h.nb)
def newF (hs : List Fact) (l : List Fact) : List Fact := l.filter fun c => !kn hs c
def outK (c : Ctr) (g : Gm) (h : H) (q : SV × H) : Option (SV × H) :=
  let rx := c.rx g h
  let rb := c.rb g h
  let v' := q.1.ren rx rb
  (svP q.2.nb rb q.1 v').bind fun L => (newsK q.2.nb q.2.nv c.h.nb rx rb q.2.hp q.2.hp).bind fun news =>
    bif prOk q.2.nv rx L && (q.2.still && (Nat.ble c.h.nb q.2.nb && (Nat.ble c.h.nv q.2.nv && q.2.fs.all (Fact.vs (blt' q.2.nv))))) then
      bif h.still then some (v', { hp := news ++ h.hp, nb := h.nb + (q.2.nb - c.h.nb), xb := h.xb, nv := h.nv + (q.2.nv - c.h.nv), xv := h.xv, fs := newF h.fs (q.2.fs.map (Fact.sub rx)) ++ h.fs })
      else bif Nat.beq q.2.nb c.h.nb && (Nat.beq q.2.nv c.h.nv && news.isEmpty) then some (v', { h with fs := newF h.fs (q.2.fs.map (Fact.sub rx)) ++ h.fs })
      else none
    else none
def outsK (c : Ctr) (g : Gm) (h : H) : List (SV × H) → Option (List (SV × H))
  | [] => some []
  | q :: r => (outK c g h q).bind fun p => (outsK c g h r).map fun l => p :: l
def Bd.view (hs : List (Nat × Blk)) : List (Nat × Blk) → Bd → Bd
  | [], d => d
  | (b, .rows _ ks x _ _) :: r, d => Bd.view hs r (match (fget hs ((fget d.bs b).getD b)).bind (asRows ks) with | some y => Bd.x 0 x y d | none => d)
  | _ :: r, d => Bd.view hs r d
def inferK (c : Ctr) (args : List SV) (h : H) : Gm :=
  let d := Bd.s.all 0 0 c.args args ⟨[], []⟩
  Bd.gm ⟨[], 0, 0, 0, 0, []⟩ c.h (Bd.view h.hp c.h.hp d)
def clash : X → X → Bool
  | .n a, .n b => !decide (a = b)
  | .t a, .t b => !(a == b)
  | .s a, .s b => !beqL a b
  | _, _ => false
/-- a call by its contract. -/
def useK (c : Ctr) (args : List SV) (h : H) : Option (List Obl × List (SV × H)) :=
  let g := inferK c args h
  (svP.all c.h.nb g.fb c.args args).bind fun L => bif L.any (fun q => clash (q.1.sub g.f) q.2) then none else (viewsK g c.h.nb h.hp c.h.hp).bind fun V =>
    bif prVs c.h.nv L && (prVs c.h.nv V && (g.xs.all (X.vs h.alVb) && (g.bs.all h.alBb && (Nat.beq g.b0 0 && (Nat.beq g.v0 0 && Nat.ble c.h.nb g.bs.length)) && (c.h.still && c.h.fs.all (Fact.vs (blt' c.h.nv)))))) then
      (outsK c g h c.outs).map fun r => (fob h.fs (prF g.f L ++ (prF g.f V ++ c.h.fs.map (Fact.sub g.f))), r)
    else none

theorem outsK_mem {c : Ctr} {g : Gm} {h : H} : ∀ {l r : List (SV × H)}, outsK c g h l = some r → ∀ q ∈ l, ∃ p ∈ r, outK c g h q = some p
  | [], r, e, q, hq => by cases hq
  | a :: l, r, e, q, hq => by
    simp only [outsK] at e
    obtain ⟨p, h1, e⟩ := bind1 e
    rw [Option.map_eq_some_iff] at e
    obtain ⟨r', h2, rfl⟩ := e
    simp only [List.mem_cons] at hq
    rcases hq with rfl | hq
    · exact ⟨p, List.mem_cons_self, h1⟩
    · obtain ⟨p', h3, h4⟩ := outsK_mem h2 q hq
      exact ⟨p', List.mem_cons_of_mem _ h3, h4⟩
theorem prOk_ok {n : Nat} {fx : Nat → X} {L : Prs} (h : prOk n fx L = true) {ρ' ρ : Env} (hf : ρ'.f = ρ.f) (hv : ∀ i, i < n → ρ'.v i = (fx i).den ρ) : ∀ q ∈ L, q.1.den ρ' = q.2.den ρ := by
  intro q hq
  simp only [prOk, List.all_eq_true, Bool.and_eq_true] at h
  obtain ⟨h1, h2⟩ := h q hq
  rw [← xeq_eq h2, X.den_sub]
  exact X.den_vs (ρ' := subE fx ρ) hf (fun i hi => hv i (by simpa [blt', Nat.blt_eq] using hi)) h1

/-- the first contract that fits. -/
def tryK : List Ctr → List SV → H → Option (List Obl × List (SV × H))
  | [], _, _ => none
  | c :: r, args, h => match useK c args h with
    | some q => some q
    | none => tryK r args h
/-- the contracts of a program's functions. -/
abbrev Book := List (Nat × List Ctr)
def Book.hd (b : Book) (f : Nat) : Option (List SV → H → Option (List Obl × List (SV × H))) := (fget b f).map tryK
end Go.SE
end
