import Derived.Orders
import Derived.Below
import Derived.Laws.AppendOwn
import Derived.KernelRfl
import Derived.Laws.Strings
/-! The symbolic executor: expressions, symbolic values, what they stand for. -/
noncomputable section
set_option linter.unusedSimpArgs false
set_option linter.unusedVariables false
namespace Go.SE
open Go.RowKit (Below)

/-- What an expression stands for. -/
inductive U where
  | i (n : Int) | b (b : Bool) | s (s : ByteArray) | l (l : List U) | m (f : List Int → Int)
instance : Inhabited U := ⟨.i 0⟩
def U.asI : U → Int | .i z => z | _ => 0
def U.asB : U → Bool | .b z => z | _ => false
def U.asS : U → ByteArray | .s z => z | _ => ⟨#[]⟩
def U.asL : U → List U | .l z => z | _ => []
def U.asM : U → List Int → Int | .m z => z | _ => fun _ => 0
def keyS (s : ByteArray) : List Int := s.data.toList.map fun c => (c.toNat : Int)
@[simp] theorem asI_i (z : Int) : (U.i z).asI = z := rfl
@[simp] theorem asB_b (z : Bool) : (U.b z).asB = z := rfl
@[simp] theorem asS_s (z : ByteArray) : (U.s z).asS = z := rfl
@[simp] theorem asL_l (z : List U) : (U.l z).asL = z := rfl
@[simp] theorem asM_m (z : List Int → Int) : (U.m z).asM = z := rfl
def U.key : U → List Int | .i z => [z] | .s z => keyS z | .l z => z.map U.asI | _ => []

/-- The environment: variables, functions, predicates. -/
structure Env where
  v : Nat → U
  f : Nat → List U → U
  p : Nat → List U → Prop

inductive O1 where
  | not | wrap (k : IntKind) | b2i | len | slen | fld (j : Nat) | bnot (k : IntKind) | asm | f (k : Nat)
  deriving DecidableEq
inductive O2 where
  | add | sub | mul | quo | rem | bit (op : BinOp) (k : IntKind) | shl (k : IntKind) | shr (k : IntKind)
  | lt | le | eq | eqb | eqs | and | or | get | min | max | cons | mget | sapp | sidx | snoc | f (k : Nat)
  deriving DecidableEq
inductive O3 where
  | set | mset | ite | f (k : Nat)
  deriving DecidableEq

inductive X where
  | n (v : Int) | t (v : Bool) | s (v : List Nat) | v (i : Nat) | nil
  | u (o : O1) (a : X) | o (o : O2) (a b : X) | c (o : O3) (a b c : X)
  deriving DecidableEq

def bytesOf (l : List Nat) : ByteArray := ⟨(l.map UInt8.ofNat).toArray⟩
def toB (s : ByteArray) : List Nat := s.data.toList.map UInt8.toNat
theorem bytesOf_toB (s : ByteArray) : bytesOf (toB s) = s := by
  cases s with
  | mk d =>
    simp only [bytesOf, toB, List.map_map]
    have : (UInt8.ofNat ∘ UInt8.toNat) = id := by funext x; simp
    rw [this]; simp

/-- wrap, with the powers written out. -/
def kw : IntKind → Int → Int
  | .i8, n => bif Int.blt' (n % 256) 128 then n % 256 else n % 256 - 256
  | .i16, n => bif Int.blt' (n % 65536) 32768 then n % 65536 else n % 65536 - 65536
  | .i32, n => bif Int.blt' (n % 4294967296) 2147483648 then n % 4294967296 else n % 4294967296 - 4294967296
  | .i64, n => bif Int.blt' (n % 18446744073709551616) 9223372036854775808 then n % 18446744073709551616 else n % 18446744073709551616 - 18446744073709551616
  | .u8, n => n % 256
  | .u16, n => n % 65536
  | .u32, n => n % 4294967296
  | .u64, n => n % 18446744073709551616
where
  Int.blt' (a b : Int) : Bool := decide (a < b)
theorem kw_eq (k : IntKind) (n : Int) : kw k n = k.wrap n := by
  cases k <;> simp [kw, kw.Int.blt', IntKind.wrap, IntKind.bits, IntKind.signed] <;> (try split) <;> (try split) <;> first | rfl | omega

def ilt (a b : Int) : Bool := decide (a < b)
def ile (a b : Int) : Bool := decide (a ≤ b)
def ieq (a b : Int) : Bool := decide (a = b)
@[simp] theorem ilt_iff {a b : Int} : ilt a b = true ↔ a < b := by simp [ilt]
@[simp] theorem ile_iff {a b : Int} : ile a b = true ↔ a ≤ b := by simp [ile]
@[simp] theorem ieq_iff {a b : Int} : ieq a b = true ↔ a = b := by simp [ieq]
def bitsZ (op : BinOp) (k : IntKind) (x y : Int) : Int :=
  let a := BitVec.ofInt k.bits x
  let b := BitVec.ofInt k.bits y
  match op with
  | .and => k.wrap (a &&& b).toNat
  | .or => k.wrap (a ||| b).toNat
  | .xor => k.wrap (a ^^^ b).toNat
  | .andNot => k.wrap (a &&& ~~~b).toNat
  | _ => 0
def shlZ (k : IntKind) (x y : Int) : Int := k.wrap (x * 2 ^ (min y.toNat k.bits))
def shrZ (k : IntKind) (x y : Int) : Int := x.fdiv (2 ^ (min y.toNat k.bits))

def O1.den (ρ : Env) : O1 → U → U
  | .not, a => .b (!a.asB)
  | .wrap k, a => .i (k.wrap a.asI)
  | .b2i, a => .i (if a.asB then 1 else 0)
  | .len, a => .i a.asL.length
  | .slen, a => .i a.asS.size
  | .fld j, a => a.asL.getD j default
  | .bnot k, a => .i (bitsZ .xor k (if k.signed then -1 else k.max) a.asI)
  | .asm, a => .m a.asM
  | .f k, a => ρ.f k [a]
def O2.den (ρ : Env) : O2 → U → U → U
  | .add, a, b => .i (a.asI + b.asI)
  | .sub, a, b => .i (a.asI - b.asI)
  | .mul, a, b => .i (a.asI * b.asI)
  | .quo, a, b => .i (a.asI.tdiv b.asI)
  | .rem, a, b => .i (a.asI.tmod b.asI)
  | .bit op k, a, b => .i (bitsZ op k a.asI b.asI)
  | .shl k, a, b => .i (shlZ k a.asI b.asI)
  | .shr k, a, b => .i (shrZ k a.asI b.asI)
  | .lt, a, b => .b (ilt a.asI b.asI)
  | .le, a, b => .b (ile a.asI b.asI)
  | .eq, a, b => .b (ieq a.asI b.asI)
  | .eqb, a, b => .b (a.asB == b.asB)
  | .eqs, a, b => .b (a.asS.toList == b.asS.toList)
  | .and, a, b => .b (a.asB && b.asB)
  | .or, a, b => .b (a.asB || b.asB)
  | .get, a, b => a.asL.getD b.asI.toNat default
  | .min, a, b => .i (bif ilt b.asI a.asI then b.asI else a.asI)
  | .max, a, b => .i (bif ilt a.asI b.asI then b.asI else a.asI)
  | .cons, a, b => .l (a :: b.asL)
  | .mget, a, b => .i (a.asM (keyS b.asS))
  | .sapp, a, b => .s (a.asS ++ b.asS)
  | .snoc, a, b => .l (a.asL ++ [b])
  | .sidx, a, b => .i ((a.asS.data.toList.getD b.asI.toNat 0).toNat : Int)
  | .f k, a, b => ρ.f k [a, b]
def O3.den (ρ : Env) : O3 → U → U → U → U
  | .set, a, b, c => .l (a.asL.set b.asI.toNat c)
  | .mset, a, b, c => .m fun q => if q = keyS b.asS then c.asI else a.asM q
  | .ite, a, b, c => if a.asB then b else c
  | .f k, a, b, c => ρ.f k [a, b, c]

def X.den (ρ : Env) : X → U
  | .n z => .i z
  | .t z => .b z
  | .s z => .s (bytesOf z)
  | .v z => ρ.v z
  | .nil => .l []
  | .u q x => q.den ρ (x.den ρ)
  | .o q x y => q.den ρ (x.den ρ) (y.den ρ)
  | .c q x y z => q.den ρ (x.den ρ) (y.den ρ) (z.den ρ)

def ble (a b : Int) : Bool := decide (a ≤ b)
def beqL : List Nat → List Nat → Bool
  | [], [] => true
  | a :: x, b :: y => bif Nat.beq a b then beqL x y else false
  | _, _ => false
theorem beqL_iff : ∀ (a b : List Nat), beqL a b = true ↔ a = b
  | [], [] => by simp [beqL]
  | [], _ :: _ => by simp [beqL]
  | _ :: _, [] => by simp [beqL]
  | a :: x, b :: y => by
    have := beqL_iff x y
    by_cases h : Nat.beq a b = true
    · simp [beqL, h, this, Nat.eq_of_beq_eq_true h]
    · have h' : Nat.beq a b = false := by cases hh : Nat.beq a b <;> simp_all
      have : a ≠ b := fun e => by subst e; simp at h
      simp [beqL, h', this]

/-- all bytes below 256. -/
def small : List Nat → Bool
  | [] => true
  | a :: x => bif Nat.blt a 256 then small x else false
theorem small_lt : ∀ {l : List Nat}, small l = true → ∀ x ∈ l, x < 256
  | [], _ => by simp
  | a :: x, h => by
    simp only [small] at h
    cases hb : Nat.blt a 256 with
    | false => simp [hb] at h
    | true =>
      simp [hb] at h
      have : a < 256 := by simp [Nat.blt] at hb; omega
      intro y hy
      simp at hy
      rcases hy with rfl | hy
      · exact this
      · exact small_lt h y hy
theorem bytesOf_toList (l : List Nat) : (bytesOf l).toList = l.map UInt8.ofNat := by
  rw [ByteArray.toList_eq]; simp [bytesOf]
theorem eqs_lit {x y : List Nat} (hx : small x = true) (hy : small y = true) :
    ((bytesOf x).toList == (bytesOf y).toList) = beqL x y := by
  rw [bytesOf_toList, bytesOf_toList]
  have hi : ∀ {l : List Nat}, small l = true → (l.map UInt8.ofNat).map UInt8.toNat = l := by
    intro l hl
    rw [List.map_map]
    conv => rhs; rw [← List.map_id l]
    exact List.map_congr_left fun a ha => by simp; have := small_lt hl a ha; omega
  cases hb : beqL x y with
  | true => have := (beqL_iff x y).1 hb; subst this; simp
  | false =>
    have hne : x ≠ y := fun e => by rw [(beqL_iff x y).2 e] at hb; cases hb
    have : x.map UInt8.ofNat ≠ y.map UInt8.ofNat := fun e => hne (by rw [← hi hx, ← hi hy, e])
    simpa using this

/-! Smart constructors. -/
def mNot : X → X
  | .t b => .t (!b)
  | .u .not a => a
  | a => .u .not a
theorem mNot_den (ρ : Env) (a : X) : ((mNot a).den ρ).asB = !(a.den ρ).asB := by
  unfold mNot
  split <;> simp [X.den, O1.den]

def mWrap (k : IntKind) : X → X
  | .n v => .n (kw k v)
  | a => .u (.wrap k) a
theorem mWrap_den (ρ : Env) (k : IntKind) (a : X) : ((mWrap k a).den ρ).asI = k.wrap (a.den ρ).asI := by
  unfold mWrap
  split <;> simp [X.den, O1.den, kw_eq]

def mB2I : X → X
  | .t b => .n (bif b then 1 else 0)
  | a => .u .b2i a
theorem mB2I_den (ρ : Env) (a : X) : ((mB2I a).den ρ).asI = if (a.den ρ).asB then 1 else 0 := by
  unfold mB2I
  split
  · rename_i b; cases b <;> simp [X.den]
  · simp [X.den, O1.den]

/-- a list that is written out. -/
def chain : X → Option (List X)
  | .nil => some []
  | .o .cons a t => (chain t).map fun l => a :: l
  | _ => none
theorem chain_den (ρ : Env) : ∀ {x : X} {l : List X}, chain x = some l → x.den ρ = .l (l.map (X.den ρ))
  | .nil, l, h => by simp only [chain, Option.some.injEq] at h; subst h; rfl
  | .o q a t, l, h => by
    cases q <;> simp only [chain, reduceCtorEq] at h
    rw [Option.map_eq_some_iff] at h
    obtain ⟨r, hr, rfl⟩ := h
    simp [X.den, O2.den, chain_den ρ hr]
  | .n _, _, h | .t _, _, h | .s _, _, h | .v _, _, h | .u _ _, _, h | .c _ _ _ _, _, h => by cases h
def mLen (x : X) : X := match chain x with
  | some l => .n l.length
  | none => .u .len x
theorem mLen_den' (ρ : Env) (a : X) : (mLen a).den ρ = O1.den ρ .len (a.den ρ) := by
  unfold mLen
  split
  · rename_i l h; simp [X.den, O1.den, chain_den ρ h]
  · rfl
theorem mLen_den (ρ : Env) (a : X) : ((mLen a).den ρ).asI = (a.den ρ).asL.length := by
  rw [mLen_den']; rfl
def mGet (x i : X) : X := match chain x, i with
  | some l, .n v => match l[v.toNat]? with
    | some a => a
    | none => .o .get x i
  | _, _ => .o .get x i
theorem mGet_den (ρ : Env) (x i : X) : (mGet x i).den ρ = (X.o .get x i).den ρ := by
  unfold mGet
  split
  · rename_i l v h
    split
    · rename_i a ha
      simp [X.den, O2.den, chain_den ρ h, List.getD_eq_getElem?_getD, ha]
    · rfl
  · rfl

def mSlen : X → X
  | .s l => .n l.length
  | a => .u .slen a
theorem mSlen_den (ρ : Env) (a : X) : ((mSlen a).den ρ).asI = (a.den ρ).asS.size := by
  unfold mSlen
  split
  · show (Int.ofNat _) = ((bytesOf _).size : Int)
    simp [bytesOf, ByteArray.size]
  · rfl

/-- operators whose answer is a whole number. -/
def mI2 : O2 → X → X → X
  | .add, .n x, .n y => .n (x + y)
  | .add, a, .n 0 => a
  | .sub, .n x, .n y => .n (x - y)
  | .sub, .v i, .v j => bif Nat.beq i j then .n 0 else .o .sub (.v i) (.v j)
  | .mul, .n x, .n y => .n (x * y)
  | .quo, .n x, .n y => .n (x.tdiv y)
  | .rem, .n x, .n y => .n (x.tmod y)
  | .bit op k, .n x, .n y => .n (bitsZ op k x y)
  | .shl k, .n x, .n y => .n (shlZ k x y)
  | .shr k, .n x, .n y => .n (shrZ k x y)
  | .min, .n x, .n y => .n (bif ilt y x then y else x)
  | .max, .n x, .n y => .n (bif ilt x y then y else x)
  | o, a, b => .o o a b
theorem mI2_den (ρ : Env) (o : O2) (a b : X) : ((mI2 o a b).den ρ).asI = (o.den ρ (a.den ρ) (b.den ρ)).asI := by
  unfold mI2
  split <;> (try (simp [X.den, O2.den]; done))
  rename_i i j
  cases hb : Nat.beq i j with
  | true => have := Nat.eq_of_beq_eq_true hb; subst this; simp [X.den, O2.den]
  | false => rfl

/-- operators whose answer is a truth value. -/
def mB2 : O2 → X → X → X
  | .lt, .n x, .n y => .t (ilt x y)
  | .le, .n x, .n y => .t (ile x y)
  | .eq, .n x, .n y => .t (ieq x y)
  | .eq, .u .b2i a, .n 0 => mNot a
  | .eq, .u .b2i a, .n 1 => a
  | .eqb, .t x, .t y => .t (x == y)
  | .eqb, a, .t true => a
  | .eqb, .t true, a => a
  | .eqb, a, .t false => mNot a
  | .eqb, .t false, a => mNot a
  | .eqs, .s x, .s y => bif small x && small y then .t (beqL x y) else .o .eqs (.s x) (.s y)
  | .and, .t true, a => a
  | .and, .t false, _ => .t false
  | .and, a, .t true => a
  | .and, _, .t false => .t false
  | .or, .t true, _ => .t true
  | .or, .t false, a => a
  | .or, _, .t true => .t true
  | .or, a, .t false => a
  | o, a, b => .o o a b
theorem mB2_den (ρ : Env) (o : O2) (a b : X) : ((mB2 o a b).den ρ).asB = (o.den ρ (a.den ρ) (b.den ρ)).asB := by
  unfold mB2
  split <;> (try (simp [X.den, O2.den, mNot_den]; done))
  case h_4 a => simp only [mNot_den, X.den, O2.den, O1.den, asB_b, asI_i]; cases (a.den ρ).asB <;> rfl
  case h_5 a => simp only [X.den, O2.den, O1.den, asB_b, asI_i]; cases (a.den ρ).asB <;> rfl
  case h_11 x y =>
  cases hs : (small x && small y) with
  | true => simp only [Bool.and_eq_true] at hs; simp [X.den, O2.den, eqs_lit hs.1 hs.2]
  | false => simp [X.den, O2.den]

/-! Symbolic values. -/
inductive SV where
  | bool (x : X) | int (k : IntKind) (x : X) | str (x : X)
  | ptr (b : Nat) (r : X) (w j : Nat) | nilp | gp (g : Nat) (r : X)
  | slice (b j : Nat) (r : X) (w : Nat) (len cap : X) | nils
  | map (b : Nat) | nilmap
  | fn (f : Nat) (caps : List SV) | nilfn
  | iface (t : Nat) (v : SV) | niface
  | agg (l : List SV) | tuple (l : List SV)
instance : Inhabited SV := ⟨.nilp⟩

/-- Where an abstract block lies: its block, its first cell. -/
abbrev Pl := Nat → Nat × Nat
def adr (σ : Pl) (b j : Nat) : Addr := ⟨(σ b).1, (σ b).2 + j, none⟩
def X.nat (ρ : Env) (x : X) : Nat := (x.den ρ).asI.toNat

def SV.val (ρ : Env) (σ : Pl) : SV → Value
  | .bool x => .bool (x.den ρ).asB
  | .int k x => .int k (x.den ρ).asI
  | .str x => .string (x.den ρ).asS
  | .ptr b r w j => .pointer (some (adr σ b (r.nat ρ * w + j)))
  | .nilp => .pointer none
  | .gp g r => .pointer (some ⟨g, r.nat ρ, none⟩)
  | .slice b j r w len cap => .slice (some (adr σ b (r.nat ρ * w + j))) (len.nat ρ) (cap.nat ρ)
  | .nils => .slice none 0 0
  | .map b => .map (some (σ b).1)
  | .nilmap => .map none
  | .fn f caps => .func (.func f) #[] (vals caps).toArray
  | .nilfn => .nilFunc
  | .iface t v => .iface t (v.val ρ σ)
  | .niface => .nilIface
  | .agg l => .agg (vals l).toArray
  | .tuple l => .tuple (vals l).toArray
where
  vals : List SV → List Value
    | [] => []
    | a :: l => a.val ρ σ :: vals l
theorem vals_eq (ρ : Env) (σ : Pl) (l : List SV) : SV.val.vals ρ σ l = l.map (SV.val ρ σ) := by
  induction l with
  | nil => rfl
  | cons a l ih => simp [SV.val.vals, ih]

/-- Is it a value of one cell? -/
def SV.one : SV → Bool
  | .agg _ | .tuple _ => false
  | _ => true
theorem SV.one_val {ρ : Env} {σ : Pl} {v : SV} (h : v.one = true) : (v.val ρ σ).oneCell' = true := by
  cases v <;> simp_all [SV.one, SV.val, Value.oneCell']
/-- a value's cells. -/
def SV.cells : SV → List SV
  | .agg l => l
  | v => [v]
theorem SV.cells_val (ρ : Env) (σ : Pl) (v : SV) : (v.val ρ σ).cells = (v.cells.map (SV.val ρ σ)).toArray := by
  cases v <;> simp [SV.cells, SV.val, Value.cells, vals_eq]

/-! Tables. -/
def fgetI {α : Type} : List (Nat × α) → Nat → Option α
  | [], _ => none
  | (k, v) :: r, t => bif Nat.beq k t then some v else fgetI r t
def fsetI {α : Type} (t : Nat) (v : α) : List (Nat × α) → List (Nat × α)
  | [] => [(t, v)]
  | (k, u) :: r => bif Nat.blt k t then (t, v) :: (k, u) :: r else bif Nat.beq k t then (t, v) :: r else (k, u) :: fsetI t v r
/-- (by the recursor: the kernel runs it faster.) -/
def fget {α : Type} (l : List (Nat × α)) (t : Nat) : Option α :=
  List.rec none (fun p _ ih => Bool.rec ih (some p.2) (Nat.beq p.1 t)) l
def fset {α : Type} (t : Nat) (v : α) (l : List (Nat × α)) : List (Nat × α) :=
  List.rec [(t, v)] (fun p r ih => Bool.rec (Bool.rec (p :: ih) ((t, v) :: r) (Nat.beq p.1 t)) ((t, v) :: p :: r) (Nat.ble (Nat.succ p.1) t)) l
theorem fget_nil {α : Type} (t : Nat) : fget ([] : List (Nat × α)) t = none := rfl
theorem fget_cons {α : Type} (k : Nat) (v : α) (r : List (Nat × α)) (t : Nat) : fget ((k, v) :: r) t = bif Nat.beq k t then some v else fget r t := by
  show @Bool.rec (fun _ => Option α) (fget r t) (some v) (Nat.beq k t) = _
  cases Nat.beq k t <;> rfl
theorem fset_nil {α : Type} (t : Nat) (v : α) : fset t v [] = [(t, v)] := rfl
theorem fset_cons {α : Type} (t : Nat) (v : α) (k : Nat) (u : α) (r : List (Nat × α)) : fset t v ((k, u) :: r) = bif Nat.blt k t then (t, v) :: (k, u) :: r else bif Nat.beq k t then (t, v) :: r else (k, u) :: fset t v r := by
  show @Bool.rec (fun _ => List (Nat × α)) (@Bool.rec (fun _ => List (Nat × α)) ((k, u) :: fset t v r) ((t, v) :: r) (Nat.beq k t)) ((t, v) :: (k, u) :: r) (Nat.ble (Nat.succ k) t) = _
  show _ = bif Nat.ble (Nat.succ k) t then _ else _
  cases Nat.ble (Nat.succ k) t <;> cases Nat.beq k t <;> rfl
theorem beq_true {a b : Nat} : Nat.beq a b = true ↔ a = b := ⟨Nat.eq_of_beq_eq_true, fun h => by subst h; simp⟩
theorem beq_false {a b : Nat} : Nat.beq a b = false ↔ a ≠ b := by
  constructor
  · intro h e; rw [beq_true.2 e] at h; cases h
  · intro h; cases hb : Nat.beq a b with
    | false => rfl
    | true => exact absurd (beq_true.1 hb) h
theorem fget_fset {α : Type} (t : Nat) (v : α) (l : List (Nat × α)) (s : Nat) :
    fget (fset t v l) s = if s = t then some v else fget l s := by
  induction l with
  | nil =>
    simp only [fset_nil, fget_cons, fget_nil]
    by_cases h : s = t
    · subst h; simp
    · have : Nat.beq t s = false := beq_false.2 (Ne.symm h)
      simp [this, h]
  | cons p r ih =>
    obtain ⟨k, u⟩ := p
    simp only [fset_cons, fget_cons]
    cases hlt : Nat.blt k t with
    | true =>
      simp only [cond_true, fget_cons]
      by_cases h : s = t
      · subst h; simp
      · have : Nat.beq t s = false := beq_false.2 (Ne.symm h)
        simp [this, h]
    | false =>
      simp only [cond_false]
      cases hb : Nat.beq k t with
      | true =>
        have := beq_true.1 hb; subst this
        simp only [cond_true, fget_cons]
        by_cases h : s = k
        · subst h; simp
        · have : Nat.beq k s = false := beq_false.2 (Ne.symm h)
          simp [this, h]
      | false =>
        have hne := beq_false.1 hb
        simp only [cond_false, fget_cons, ih]
        by_cases h : s = t
        · subst h
          have : Nat.beq k s = false := beq_false.2 hne
          simp [this]
        · simp [h]
def fdel {α : Type} (t : Nat) : List (Nat × α) → List (Nat × α)
  | [] => []
  | (k, u) :: r => bif Nat.beq k t then fdel t r else (k, u) :: fdel t r
theorem fget_fdel {α : Type} (t : Nat) (l : List (Nat × α)) (s : Nat) : fget (fdel t l) s = if s = t then none else fget l s := by
  induction l with
  | nil => simp [fdel, fget_nil]
  | cons p r ih =>
    obtain ⟨k, u⟩ := p
    simp only [fdel]
    cases hb : Nat.beq k t with
    | true =>
      have := beq_true.1 hb; subst this
      simp only [cond_true, fget_cons, ih]
      by_cases h : s = k
      · simp [h]
      · have : Nat.beq k s = false := beq_false.2 (Ne.symm h)
        simp [this, h]
    | false =>
      have hne := beq_false.1 hb
      simp only [cond_false, fget_cons, ih]
      by_cases h : s = t
      · subst h; have : Nat.beq k s = false := beq_false.2 hne; simp [this]
      · simp [h]
end Go.SE
end
