import Derived.Test.YtkphkjffcpkhjaaDoorSe16
import Derived.Test.YtkphkjffcpkhjaaDoorSe30
import Derived.LoopN
import Derived.Scope
/-! The symbolic executor: sameness of states; the executor itself. -/
noncomputable section
set_option linter.unusedSimpArgs false
set_option linter.unusedVariables false
namespace Go.SE

def leq {α : Type} (f : α → α → Bool) : List α → List α → Bool
  | [], [] => true
  | a :: x, b :: y => f a b && leq f x y
  | _, _ => false
theorem leq_eq {α : Type} {f : α → α → Bool} (hf : ∀ a b, f a b = true → a = b) : ∀ {x y : List α}, leq f x y = true → x = y
  | [], [], _ => rfl
  | a :: x, b :: y, h => by
    simp only [leq, Bool.and_eq_true] at h
    rw [hf a b h.1, leq_eq hf h.2]
  | [], _ :: _, h => by cases h
  | _ :: _, [], h => by cases h

def sveq : SV → SV → Bool
  | .bool a, .bool b => xeq a b
  | .int k a, .int l b => decide (k = l) && xeq a b
  | .str a, .str b => xeq a b
  | .ptr a r w j, .ptr b s v i => Nat.beq a b && (Nat.beq w v && (Nat.beq j i && xeq r s))
  | .nilp, .nilp => true
  | .gp a r, .gp b s => Nat.beq a b && xeq r s
  | .slice a j r w l c, .slice b i s v m d => Nat.beq a b && (Nat.beq j i && (Nat.beq w v && (xeq r s && (xeq l m && xeq c d))))
  | .nils, .nils => true
  | .map a, .map b => Nat.beq a b
  | .nilmap, .nilmap => true
  | .fn f l, .fn g m => Nat.beq f g && all l m
  | .nilfn, .nilfn => true
  | .iface t v, .iface u w => Nat.beq t u && sveq v w
  | .niface, .niface => true
  | .agg l, .agg m => all l m
  | .tuple l, .tuple m => all l m
  | _, _ => false
where
  all : List SV → List SV → Bool
    | [], [] => true
    | a :: x, b :: y => sveq a b && all x y
    | _, _ => false
mutual
theorem sveq_eq : ∀ (a b : SV), sveq a b = true → a = b
  | .bool a, b, h => by cases b <;> simp only [sveq, reduceCtorEq, Bool.false_eq_true] at h; rw [xeq_eq h]
  | .int k a, b, h => by
    cases b <;> simp only [sveq, reduceCtorEq, Bool.false_eq_true, Bool.and_eq_true, decide_eq_true_eq] at h
    rw [h.1, xeq_eq h.2]
  | .str a, b, h => by cases b <;> simp only [sveq, reduceCtorEq, Bool.false_eq_true] at h; rw [xeq_eq h]
  | .ptr a r w j, b, h => by
    cases b <;> simp only [sveq, reduceCtorEq, Bool.false_eq_true, Bool.and_eq_true, beq_true] at h
    rw [h.1, h.2.1, h.2.2.1, xeq_eq h.2.2.2]
  | .gp a r, b, h => by
    cases b <;> simp only [sveq, reduceCtorEq, Bool.false_eq_true, Bool.and_eq_true, beq_true] at h
    rw [h.1, xeq_eq h.2]
  | .nilp, b, h => by cases b <;> simp only [sveq, reduceCtorEq, Bool.false_eq_true] at h; rfl
  | .slice a j r w l c, b, h => by
    cases b <;> simp only [sveq, reduceCtorEq, Bool.false_eq_true, Bool.and_eq_true, beq_true] at h
    rw [h.1, h.2.1, h.2.2.1, xeq_eq h.2.2.2.1, xeq_eq h.2.2.2.2.1, xeq_eq h.2.2.2.2.2]
  | .nils, b, h => by cases b <;> simp only [sveq, reduceCtorEq, Bool.false_eq_true] at h; rfl
  | .map a, b, h => by cases b <;> simp only [sveq, reduceCtorEq, Bool.false_eq_true, beq_true] at h; rw [h]
  | .nilmap, b, h => by cases b <;> simp only [sveq, reduceCtorEq, Bool.false_eq_true] at h; rfl
  | .fn f l, b, h => by
    cases b <;> simp only [sveq, reduceCtorEq, Bool.false_eq_true, Bool.and_eq_true, beq_true] at h
    rw [h.1, sveq_all _ _ h.2]
  | .nilfn, b, h => by cases b <;> simp only [sveq, reduceCtorEq, Bool.false_eq_true] at h; rfl
  | .iface t v, b, h => by
    cases b <;> simp only [sveq, reduceCtorEq, Bool.false_eq_true, Bool.and_eq_true, beq_true] at h
    rw [h.1, sveq_eq _ _ h.2]
  | .niface, b, h => by cases b <;> simp only [sveq, reduceCtorEq, Bool.false_eq_true] at h; rfl
  | .agg l, b, h => by cases b <;> simp only [sveq, reduceCtorEq, Bool.false_eq_true] at h; rw [sveq_all _ _ h]
  | .tuple l, b, h => by cases b <;> simp only [sveq, reduceCtorEq, Bool.false_eq_true] at h; rw [sveq_all _ _ h]
theorem sveq_all : ∀ (l m : List SV), sveq.all l m = true → l = m
  | [], m, h => by cases m <;> simp only [sveq.all, reduceCtorEq, Bool.false_eq_true] at h; rfl
  | a :: l, m, h => by
    cases m <;> simp only [sveq.all, reduceCtorEq, Bool.false_eq_true, Bool.and_eq_true] at h
    rw [sveq_eq _ _ h.1, sveq_all _ _ h.2]
end

def steq (a b : List Nat × Nat) : Bool := Nat.beq a.2 b.2 && beqL a.1 b.1
def bleq : Blk → Blk → Bool
  | .cells l e t, .cells m f u => Nat.beq e f && (xeq t u && sveq.all l m)
  | .rows o ks x e t, .rows p ls y f u => (o == p) && (Nat.beq e f && (xeq x y && (xeq t u && decide (ks = ls))))
  | .map k m s, .map l n r => decide (k = l) && (xeq m n && leq steq s r)
  | _, _ => false
theorem bleq_eq (a b : Blk) (h : bleq a b = true) : a = b := by
  cases a <;> cases b <;> simp only [bleq, reduceCtorEq, Bool.false_eq_true, Bool.and_eq_true, beq_true, decide_eq_true_eq, beq_iff_eq] at h
  · rw [h.1, xeq_eq h.2.1, sveq_all _ _ h.2.2]
  · rw [h.1, h.2.1, xeq_eq h.2.2.1, xeq_eq h.2.2.2.1, h.2.2.2.2]
  · rw [h.1, xeq_eq h.2.1, leq_eq (fun p q hpq => by
      simp only [steq, Bool.and_eq_true, beq_true] at hpq
      obtain ⟨h1, h2⟩ := hpq
      have := (beqL_iff _ _).1 h2
      cases p; cases q; simp_all) h.2.2]
def feq : Fact → Fact → Bool
  | .x a, .x b => xeq a b
  | .p k l, .p j m => Nat.beq k j && leq xeq l m
  | .q a b, .q c d => xeq a c && xeq b d
  | _, _ => false
theorem feq_eq (a b : Fact) (h : feq a b = true) : a = b := by
  cases a <;> cases b <;> simp only [feq, reduceCtorEq, Bool.false_eq_true, Bool.and_eq_true, beq_true] at h
  · rw [xeq_eq h]
  · rw [h.1, leq_eq (fun _ _ => xeq_eq) h.2]
  · rw [xeq_eq h.1, xeq_eq h.2]
def peq {α : Type} (f : α → α → Bool) (a b : Nat × α) : Bool := Nat.beq a.1 b.1 && f a.2 b.2
theorem peq_eq {α : Type} {f : α → α → Bool} (hf : ∀ a b, f a b = true → a = b) (a b : Nat × α) (h : peq f a b = true) : a = b := by
  simp only [peq, Bool.and_eq_true, beq_true] at h
  cases a; cases b
  simp only at h
  rw [h.1, hf _ _ h.2]
def heq (a b : H) : Bool := leq (peq bleq) a.hp b.hp && (Nat.beq a.nb b.nb && (Nat.beq a.xb b.xb && (Nat.beq a.nv b.nv && (Nat.beq a.xv b.xv && leq feq a.fs b.fs))))
theorem heq_eq (a b : H) (h : heq a b = true) : a = b := by
  simp only [heq, Bool.and_eq_true, beq_true] at h
  obtain ⟨h1, h2, h3, h4, h5, h6⟩ := h
  have e1 := leq_eq (peq_eq bleq_eq) h1
  have e6 := leq_eq feq_eq h6
  cases a; cases b
  simp_all
def Steq (a b : St) : Bool := leq (peq sveq) a.fr b.fr && (Nat.beq a.n b.n && heq a.h b.h)
theorem Steq_eq (a b : St) (h : Steq a b = true) : a = b := by
  simp only [Steq, Bool.and_eq_true, beq_true] at h
  have e1 := leq_eq (peq_eq sveq_eq) h.1
  have e2 := heq_eq _ _ h.2.2
  cases a; cases b
  simp_all

/-! What must hold, as obligations: what is known is left out. -/
def rflX : X → Bool
  | .o .eq a b => xeq a b
  | .o .eqb a b => xeq a b
  | .o .le a b => xeq a b
  | _ => false
theorem rflX_ok {x : X} (h : rflX x = true) (ρ : Env) : (x.den ρ).asB = true := by
  unfold rflX at h
  split at h
  · rw [xeq_eq h]; simp [X.den, O2.den]
  · rw [xeq_eq h]; simp [X.den, O2.den]
  · rw [xeq_eq h]; simp [X.den, O2.den]
  · cases h
def known (fs : List Fact) (x : X) : Bool :=
  match x with
  | .t true => true
  | x => bif rflX x then true else fs.any fun f => match f with | .x y => xeq y x | _ => false
def obls (fs : List Fact) : List X → List Obl
  | [] => []
  | x :: l => bif known fs x then obls fs l else ⟨fs, .x x⟩ :: obls fs l
def newFs (fs : List Fact) : List X → List Fact
  | [] => fs
  | x :: l => bif known fs x then newFs fs l else newFs (.x x :: fs) l
theorem known_ok {fs : List Fact} {x : X} (h : known fs x = true) (ρ : Env) (hf : ∀ f ∈ fs, f.ok ρ) : (x.den ρ).asB = true := by
  unfold known at h
  split at h
  · rfl
  · cases hr : rflX x with
    | true => exact rflX_ok hr ρ
    | false =>
      rw [hr] at h
      simp only [cond_false, List.any_eq_true] at h
      obtain ⟨f, hm, h⟩ := h
      split at h
      · rename_i y
        have := hf _ hm
        rw [← xeq_eq h]; exact this
      · cases h
theorem obls_ok {w0 : W0} {fs : List Fact} : ∀ {l : List X}, (∀ o ∈ obls fs l, o.ok w0) → ∀ ρ : Env, ρ.f = w0.i.f ∧ ρ.p = w0.i.p → (∀ f ∈ fs, f.ok ρ) → ∀ q ∈ l, (q.den ρ).asB = true
  | [], _, _, _, _ => by simp
  | x :: l, h, ρ, ip, hf => by
    intro q hq
    simp only [obls] at h
    cases hk : known fs x with
    | true =>
      simp only [hk, cond_true] at h
      simp only [List.mem_cons] at hq
      rcases hq with rfl | hq
      · exact known_ok hk ρ hf
      · exact obls_ok h ρ ip hf q hq
    | false =>
      simp only [hk, cond_false] at h
      simp only [List.mem_cons] at hq
      rcases hq with rfl | hq
      · exact h _ List.mem_cons_self ρ ip.1 ip.2 hf
      · exact obls_ok (fun o ho => h o (List.mem_cons_of_mem _ ho)) ρ ip hf q hq
theorem newFs_ok {ρ : Env} : ∀ {l : List X} {fs : List Fact}, (∀ f ∈ fs, f.ok ρ) → (∀ q ∈ l, (q.den ρ).asB = true) → ∀ f ∈ newFs fs l, f.ok ρ
  | [], fs, hf, _ => hf
  | x :: l, fs, hf, hl => by
    simp only [newFs]
    have hl' : ∀ q ∈ l, (q.den ρ).asB = true := fun q hq => hl q (List.mem_cons_of_mem _ hq)
    cases known fs x with
    | true => exact newFs_ok hf hl'
    | false =>
      refine newFs_ok (fun f hm => ?_) hl'
      simp only [List.mem_cons] at hm
      rcases hm with rfl | hm
      · exact hl x List.mem_cons_self
      · exact hf f hm
end Go.SE
end
