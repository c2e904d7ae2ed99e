import Derived.Test.YtkphkjffcpkhjaaDoorSe1
/-! The symbolic executor: the state, and when it stands for a frame and a world. -/
noncomputable section
set_option linter.unusedSimpArgs false
set_option linter.unusedVariables false
namespace Go.SE
open Go.RowKit (Below)

/-- the kind of a cell in a row. -/
inductive CK where
  | int (k : IntKind) | bool | str
  deriving DecidableEq
def CK.sv : CK → X → SV
  | .int k, x => .int k x
  | .bool, x => .bool x
  | .str, x => .str x
def CK.val : CK → U → Value
  | .int k, u => .int k u.asI
  | .bool, u => .bool u.asB
  | .str, u => .string u.asS
theorem CK.sv_val (k : CK) (ρ : Env) (σ : Pl) (x : X) : (k.sv x).val ρ σ = k.val (x.den ρ) := by
  cases k <;> rfl
/-- cell j of a row of n cells. -/
def rowX (n : Nat) (r : X) (j : Nat) : X := bif Nat.beq n 1 then r else .u (.fld j) r
def rowU (n : Nat) (r : U) (j : Nat) : U := bif Nat.beq n 1 then r else r.asL.getD j default
theorem rowX_den (ρ : Env) (n : Nat) (r : X) (j : Nat) : (rowX n r j).den ρ = rowU n (r.den ρ) j := by
  unfold rowX rowU
  cases Nat.beq n 1 <;> simp [X.den, O1.den]

inductive Blk where
  | cells (l : List SV) (e : TypeId) (tot : X)
  | rows (own : Bool) (ks : List CK) (x : X) (e : TypeId) (tot : X)
  | map (k : IntKind) (m : X) (st : List (List Nat × Nat))
def Blk.own : Blk → Bool
  | .rows own _ _ _ _ => own
  | _ => true

inductive Fact where
  | x (e : X) | p (k : Nat) (l : List X) | q (a b : X)
  deriving DecidableEq
def Fact.ok (ρ : Env) : Fact → Prop
  | .x e => (e.den ρ).asB = true
  | .p k l => ρ.p k (l.map (X.den ρ))
  | .q a b => a.den ρ = b.den ρ

/-- the world ahead of it all, and what the functions and predicates stand for. -/
structure Interp where
  f : Nat → List U → U
  p : Nat → List U → Prop
structure W0 where
  w : World
  i : Interp
structure Obl where
  fs : List Fact
  goal : Fact
def Obl.ok (w0 : W0) (o : Obl) : Prop := ∀ ρ : Env, ρ.f = w0.i.f → ρ.p = w0.i.p → (∀ f ∈ o.fs, f.ok ρ) → o.goal.ok ρ

structure H where
  hp : List (Nat × Blk)
  nb : Nat
  xb : Nat
  nv : Nat
  xv : Nat
  fs : List Fact
structure St where
  fr : List (Nat × SV)
  n : Nat
  h : H

def H.alB (h : H) (i : Nat) : Prop := i < h.nb ∨ (h.nb ≤ i ∧ h.xb.testBit (i - h.nb) = true)
def H.alV (h : H) (i : Nat) : Prop := i < h.nv ∨ (h.nv ≤ i ∧ h.xv.testBit (i - h.nv) = true)

def H.alBb (h : H) (i : Nat) : Bool := Nat.blt i h.nb || (Nat.ble h.nb i && h.xb.testBit (i - h.nb))
def H.alVb (h : H) (i : Nat) : Bool := Nat.blt i h.nv || (Nat.ble h.nv i && h.xv.testBit (i - h.nv))
theorem H.alVb_iff {h : H} {i : Nat} : h.alVb i = true ↔ h.alV i := by
  simp only [H.alVb, H.alV, Bool.or_eq_true, Bool.and_eq_true, Nat.blt_eq, Nat.ble_eq]
theorem H.alBb_iff {h : H} {i : Nat} : h.alBb i = true ↔ h.alB i := by
  simp only [H.alBb, H.alB, Bool.or_eq_true, Bool.and_eq_true, Nat.blt_eq, Nat.ble_eq]
structure Ext (h : H) (ρ ρ' : Env) (σ σ' : Pl) : Prop where
  f : ρ'.f = ρ.f
  p : ρ'.p = ρ.p
  v : ∀ i, h.alV i → ρ'.v i = ρ.v i
  b : ∀ i, h.alB i → σ' i = σ i
theorem Ext.refl (h : H) (ρ : Env) (σ : Pl) : Ext h ρ ρ σ σ := ⟨rfl, rfl, fun _ _ => rfl, fun _ _ => rfl⟩
theorem Ext.trans {h h' : H} {ρ ρ' ρ'' : Env} {σ σ' σ'' : Pl} (a : Ext h ρ ρ' σ σ') (b : Ext h' ρ' ρ'' σ' σ'')
    (hv : ∀ i, h.alV i → h'.alV i) (hb : ∀ i, h.alB i → h'.alB i) : Ext h ρ ρ'' σ σ'' :=
  ⟨b.f.trans a.f, b.p.trans a.p, fun i hi => (b.v i (hv i hi)).trans (a.v i hi), fun i hi => (b.b i (hb i hi)).trans (a.b i hi)⟩
structure H.le (h h' : H) : Prop where
  v : ∀ i, h.alV i → h'.alV i
  b : ∀ i, h.alB i → h'.alB i
theorem H.le.refl (h : H) : h.le h := ⟨fun _ h => h, fun _ h => h⟩
theorem H.le.trans {a b c : H} (x : a.le b) (y : b.le c) : a.le c := ⟨fun i h => y.v i (x.v i h), fun i h => y.b i (x.b i h)⟩
theorem Ext.of_le {h h' : H} {ρ ρ' : Env} {σ σ' : Pl} (l : h.le h') (e : Ext h' ρ ρ' σ σ') : Ext h ρ ρ' σ σ' :=
  ⟨e.f, e.p, fun i hi => e.v i (l.v i hi), fun i hi => e.b i (l.b i hi)⟩

def enc (k : IntKind) (e : ByteArray × Int × Nat) : MapEntry := ⟨.string e.1, .int k e.2.1, e.2.2⟩
structure MapRep (ρ : Env) (k : IntKind) (es : Array MapEntry) (ck : Nat) (f : List Int → Int) (st : List (List Nat × Nat)) (L : List (ByteArray × Int × Nat)) : Prop where
  es : es.toList = L.map (enc k)
  keys : (L.map (·.1)).Nodup
  borns : (L.map (·.2.2)).Nodup
  born : ∀ e ∈ L, e.2.2 < ck
  has : ∀ e ∈ L, f (keyS e.1) = e.2.1
  not : ∀ s, (∀ e ∈ L, e.1 ≠ s) → f (keyS s) = 0
  st : ∀ q ∈ st, ∃ e ∈ L, e.1 = bytesOf q.1 ∧ (ρ.v q.2).asI = e.2.2
def MapOk (ρ : Env) (k : IntKind) (es : Array MapEntry) (ck : Nat) (f : List Int → Int) (st : List (List Nat × Nat)) : Prop := ∃ L, MapRep ρ k es ck f st L

def BlkOk (B : Nat) (ρ : Env) (σ : Pl) (w : World) (b : Nat) : Blk → Prop
  | .cells l e tot => B ≤ (σ b).1 ∧ (σ b).2 = 0 ∧ ∃ c, w.heap[(σ b).1]? = some (.cells c e (0, 0)) ∧ c.size = tot.nat ρ ∧
      ∀ (i : Nat) (v : SV), l[i]? = some v → c[i]? = some (v.val ρ σ)
  | .rows true ks x e tot => B ≤ (σ b).1 ∧ (σ b).2 = 0 ∧ ∃ c, w.heap[(σ b).1]? = some (.cells c e (0, 0)) ∧ c.size = tot.nat ρ ∧
      ∀ (r j : Nat) (k : CK), r < (x.den ρ).asL.length → ks[j]? = some k → c[r * ks.length + j]? = some (k.val (rowU ks.length ((x.den ρ).asL.getD r default) j))
  | .rows false ks x _ _ => (σ b).1 < B ∧
      ∀ (r j : Nat) (k : CK), r < (x.den ρ).asL.length → ks[j]? = some k → w.cell? (adr σ b (r * ks.length + j)) = some (k.val (rowU ks.length ((x.den ρ).asL.getD r default) j))
  | .map k m st => B ≤ (σ b).1 ∧ (σ b).2 = 0 ∧ ∃ es ck, w.heap[(σ b).1]? = some (.map es ck) ∧ MapOk ρ k es ck (m.den ρ).asM st

/-- the table of the library's that is laid: which bytes are blank. -/
def asciiAt (i : Nat) : Int := bif Nat.beq i 32 || (Nat.ble 9 i && Nat.ble i 13) then 1 else 0
def LayOk (w0 : W0) (B : Nat) : Prop := ∀ g : Nat, (w0.i.f 999 [.i g]).asB = true → g < B ∧ ∀ i, i < 256 → w0.w.cell? ⟨g, i, none⟩ = some (.int .u8 (asciiAt i))
structure HOk (w0 : W0) (B : Nat) (ρ : Env) (σ : Pl) (h : H) (w : World) : Prop where
  ip : ρ.f = w0.i.f ∧ ρ.p = w0.i.p
  lay : LayOk w0 B
  below : Below B w0.w w
  size : B ≤ w.heap.size
  blk : ∀ b k, fget h.hp b = some k → BlkOk B ρ σ w b k
  apart : ∀ b c k l, fget h.hp b = some k → fget h.hp c = some l → k.own = true → l.own = true → (σ b).1 = (σ c).1 → b = c
  facts : ∀ f ∈ h.fs, f.ok ρ
structure FrOk (ρ : Env) (σ : Pl) (fr : List (Nat × SV)) (n : Nat) (a : Act) : Prop where
  size : a.tmps.size = n
  get : ∀ t v, fget fr t = some v → a.tmps.getD t undef = v.val ρ σ
  defers : a.defers = []

/-- For all environments that agree on what is known. -/
def HRep (w0 : W0) (B : Nat) (ρ : Env) (σ : Pl) (h : H) (w : World) : Prop := ∀ ρ' σ', Ext h ρ ρ' σ σ' → HOk w0 B ρ' σ' h w
def FRep (ρ : Env) (σ : Pl) (h : H) (fr : List (Nat × SV)) (n : Nat) (a : Act) : Prop := ∀ ρ' σ', Ext h ρ ρ' σ σ' → FrOk ρ' σ' fr n a
def VRep (ρ : Env) (σ : Pl) (h : H) (l : List SV) (vs : List Value) : Prop := ∀ ρ' σ', Ext h ρ ρ' σ σ' → l.map (SV.val ρ' σ') = vs
theorem HRep.ext {w0 : W0} {B : Nat} {ρ ρ' : Env} {σ σ' : Pl} {h : H} {w : World} (r : HRep w0 B ρ σ h w) (e : Ext h ρ ρ' σ σ') : HRep w0 B ρ' σ' h w :=
  fun _ _ e' => r _ _ (e.trans e' (fun _ h => h) (fun _ h => h))
theorem FRep.ext {ρ ρ' : Env} {σ σ' : Pl} {h h' : H} {fr : List (Nat × SV)} {n : Nat} {a : Act} (r : FRep ρ σ h fr n a) (e : Ext h ρ ρ' σ σ') (l : h.le h') : FRep ρ' σ' h' fr n a :=
  fun _ _ e' => r _ _ (e.trans e' l.v l.b)
theorem VRep.ext {ρ ρ' : Env} {σ σ' : Pl} {h h' : H} {s : List SV} {vs : List Value} (r : VRep ρ σ h s vs) (e : Ext h ρ ρ' σ σ') (l : h.le h') : VRep ρ' σ' h' s vs :=
  fun _ _ e' => r _ _ (e.trans e' l.v l.b)
theorem HRep.now {w0 : W0} {B : Nat} {ρ : Env} {σ : Pl} {h : H} {w : World} (r : HRep w0 B ρ σ h w) : HOk w0 B ρ σ h w := r _ _ (Ext.refl _ _ _)
theorem FRep.now {ρ : Env} {σ : Pl} {h : H} {fr : List (Nat × SV)} {n : Nat} {a : Act} (r : FRep ρ σ h fr n a) : FrOk ρ σ fr n a := r _ _ (Ext.refl _ _ _)

/-- What an operand is. -/
def constSV : Value → Option SV
  | .bool b => some (.bool (.t b))
  | .int k n => some (.int k (.n n))
  | .string s => some (.str (.s (toB s)))
  | .pointer none => some .nilp
  | .slice none 0 0 => some .nils
  | .map none => some .nilmap
  | .nilFunc => some .nilfn
  | .nilIface => some .niface
  | .tuple ⟨[]⟩ => some (.tuple [])
  | _ => none
theorem constSV_val {v : Value} {s : SV} (h : constSV v = some s) (ρ : Env) (σ : Pl) : s.val ρ σ = v := by
  unfold constSV at h
  split at h <;> first
    | (cases h; rfl)
    | (cases h; simp [SV.val, X.den, bytesOf_toB]; done)
    | (cases h)
def ev (fr : List (Nat × SV)) : Operand → Option SV
  | .tmp t => fget fr t
  | .const v => constSV v
  | .func f => some (.fn f [])
  | .global g => some (.gp g (.n 0))
theorem ev_ok {ρ : Env} {σ : Pl} {fr : List (Nat × SV)} {n : Nat} {a : Act} (hf : FrOk ρ σ fr n a) {x : Operand} {s : SV} (h : ev fr x = some s) :
    a.eval x = s.val ρ σ := by
  cases x with
  | tmp t => exact hf.get t s h
  | const v => exact (constSV_val h ρ σ).symm
  | func f => cases h; rfl
  | global g => cases h; rfl
theorem FrOk.put {ρ : Env} {σ : Pl} {fr : List (Nat × SV)} {n : Nat} {a : Act} (hf : FrOk ρ σ fr n a) (t : Nat) (ht : t < n) (s : SV) :
    FrOk ρ σ (fset t s fr) n (a.put (some t) (s.val ρ σ)) := by
  refine ⟨by simp [Act.put, hf.size], fun u v hv => ?_, hf.defers⟩
  rw [fget_fset] at hv
  by_cases e : u = t
  · subst e
    simp at hv; subst hv
    simp [Act.put, Array.getD, hf.size, ht]
  · simp [e] at hv
    have := hf.get u v hv
    simp only [Act.put, Array.getD_eq_getD_getElem?] at this ⊢
    rw [Array.getElem?_setIfInBounds_ne (Ne.symm e)]
    exact this
/-- what is said of a loop: a state for all its rounds, what grows less, what stands for what is seen in no cell: ahead of the loop, behind a round. -/
structure Tm where
  T : St
  m : X
  g0 : List (Nat × X)
  g1 : List (Nat × X)
def lfoldI {α β : Type} (f : α → β → β) (z : β) (l : List α) : β := l.foldr f z
/-- (by the recursor: the kernel runs it faster.) -/
def lfold {α β : Type} (f : α → β → β) (z : β) (l : List α) : β := List.rec z (fun a _ ih => f a ih) l
def keepM (m : Nat) (fr : List (Nat × SV)) : List (Nat × SV) := lfold (fun p r => bif Nat.beq (Nat.land (Nat.shiftRight m p.1) 1) 0 then r else p :: r) [] fr
end Go.SE
end
