import Derived.Test.YtkphkjffcpkhjaaDoorSe6
/-! The symbolic executor: one function for the operations that look at no memory. -/
noncomputable section
set_option linter.unusedSimpArgs false
set_option linter.unusedVariables false
namespace Go.SE
variable {P : Program}

def okp' (x : Option SV) : PR := x.map fun s => ([], s)

/-- what must hold for a number not to be below 0. -/
def nn : X → List X
  | .n v => bif ile 0 v then [] else [.t false]
  | .u .len _ => []
  | .u .slen _ => []
  | x => [mB2 .le (.n 0) x]
theorem nn_ok {ρ : Env} {x : X} (h : ∀ e ∈ nn x, (e.den ρ).asB = true) : 0 ≤ (x.den ρ).asI := by
  unfold nn at h
  split at h
  · rename_i v
    cases hc : ile 0 v with
    | true => exact ile_iff.1 hc
    | false =>
      have := h (.t false) (by rw [hc]; exact List.mem_singleton_self _)
      simp [X.den] at this
  · simp [X.den, O1.den]
  · simp [X.den, O1.den]
  · have h1 := h _ (List.mem_singleton_self _)
    simp [mB2_den, O2.den, X.den] at h1
    exact h1

def mSidx : X → X → X
  | .s l, .n v => bif small l then .n (l.getD v.toNat 0) else .o .sidx (.s l) (.n v)
  | s, i => .o .sidx s i
theorem mSidx_den (ρ : Env) (s i : X) : ((mSidx s i).den ρ).asI = (((s.den ρ).asS.data.toList.getD (i.den ρ).asI.toNat 0).toNat : Int) := by
  unfold mSidx
  split
  · rename_i l v
    cases hs : small l with
    | true =>
      simp only [cond_true, X.den, asI_i, asS_s, bytesOf]
      by_cases hv : v.toNat < l.length
      · have := small_lt hs (l[v.toNat]) (List.getElem_mem _)
        simp [List.getD_eq_getElem?_getD, List.getElem?_map, hv]
        omega
      · simp [List.getD_eq_getElem?_getD, List.getElem?_map, hv]
    | false => simp [X.den, O2.den]
  · simp [X.den, O2.den]

def pIndex (tt : Nat → Option Ty) (t : Nat) : SV → SV → PR
  | .agg l, .int _ (.n v) => (tt t).bind fun ty => match ty.ul with
    | .arr n e => (tt e).bind fun ety => (pPart ety l (v.toNat * ety.size)).map fun s => (inB (.n v) (.n n), s)
    | _ => none
  | .str x, .int _ i => (tt t).bind fun ty => match ty.ul with
    | .str => some (inB i (mSlen x), .int .u8 (mSidx x i))
    | _ => none
  | _, _ => none
theorem pIndex_ok {tt : Nat → Option Ty} (ht : TabOk P tt) {t : Nat} {x y s : SV} {g : List X} (h : pIndex tt t x y = some (g, s)) (ρ : Env) (σ : Pl) (w : World)
    (hg : ∀ e ∈ g, (e.den ρ).asB = true) : (Instr.index t (x.val ρ σ) (y.val ρ σ)).run P w = .ok (s.val ρ σ) w := by
  unfold pIndex at h
  split at h
  · rename_i l k v
    cases h1 : tt t with
    | none => simp [h1] at h
    | some ty =>
      simp only [h1, Option.bind_some] at h
      split at h
      · rename_i n e hul
        have hu := (ht t ty h1).ul
        rw [hul] at hu
        simp only [ULOk] at hu
        cases h2 : tt e with
        | none => simp [h2] at h
        | some ety =>
          simp only [h2, Option.bind_some] at h
          cases h4 : pPart ety l (v.toNat * ety.size) with
          | none => simp [h4] at h
          | some s' =>
            simp only [h4, Option.map_some, Option.some.injEq, Prod.mk.injEq] at h
            obtain ⟨rfl, rfl⟩ := h
            have hb := inB_ok hg
            simp only [X.den, asI_i] at hb
            have := pPart_ok (ht e ety h2) h4 ρ σ w
            simp only [Instr.index, SV.val, asIntOf, Sem.run_bind, Sem.run_pure, Result.andThen_ok, run_underlying hu, X.den, asI_i, hb, and_self, if_true, run_size_ok (ht e ety h2), vals_eq, this]
      · cases h
  · rename_i x k i
    cases h1 : tt t with
    | none => simp [h1] at h
    | some ty =>
      simp only [h1, Option.bind_some] at h
      split at h
      · rename_i hul
        have hu := (ht t ty h1).ul
        rw [hul] at hu
        simp only [ULOk] at hu
        simp only [Option.some.injEq, Prod.mk.injEq] at h
        obtain ⟨rfl, rfl⟩ := h
        have hb := inB_ok hg
        rw [mSlen_den] at hb
        have hlt : (i.den ρ).asI.toNat < (x.den ρ).asS.size := by omega
        have he : (x.den ρ).asS[(i.den ρ).asI.toNat]? = some ((x.den ρ).asS[(i.den ρ).asI.toNat]'hlt) := getElem?_pos (x.den ρ).asS (i.den ρ).asI.toNat hlt
        simp only [Instr.index, SV.val, asIntOf, Sem.run_bind, Sem.run_pure, Result.andThen_ok, run_underlying hu, hb.1, if_true, he, mSidx_den]
        have h3 : (i.den ρ).asI.toNat < (x.den ρ).asS.data.toList.length := by simpa using hlt
        simp only [List.getD_eq_getElem?_getD, List.getElem?_eq_getElem h3, Option.getD_some, Array.getElem_toList]
        rfl
      · cases h
  · cases h

def pLen (tt : Nat → Option Ty) (t : Nat) : SV → PR
  | .slice _ _ _ _ len _ => (tt t).bind fun ty => match ty.ul with | .slice _ => some (nn len, .int .i64 len) | _ => none
  | .nils => (tt t).bind fun ty => match ty.ul with | .slice _ => okp (.int .i64 (.n 0)) | _ => none
  | .str x => (tt t).bind fun ty => match ty.ul with | .str => okp (.int .i64 (mSlen x)) | _ => none
  | .agg _ => (tt t).bind fun ty => match ty.ul with | .arr n _ => okp (.int .i64 (.n n)) | _ => none
  | _ => none
theorem pLen_ok {tt : Nat → Option Ty} (ht : TabOk P tt) {t ty' : Nat} {x s : SV} {g : List X} (h : pLen tt t x = some (g, s)) (ρ : Env) (σ : Pl) (w : World)
    (hg : ∀ e ∈ g, (e.den ρ).asB = true) (ts : Array TypeId) (hts : ts[0]? = some t) : (Builtin.len_ ts ty' #[x.val ρ σ]).run P w = .ok (s.val ρ σ) w := by
  unfold pLen at h
  split at h <;> (try (cases h; done)) <;>
    (cases h1 : tt t with
     | none => simp [h1] at h
     | some ty =>
       simp only [h1, Option.bind_some] at h
       split at h <;> (try (cases h; done))
       rename_i hul
       have hu := (ht t ty h1).ul
       rw [hul] at hu
       simp only [ULOk] at hu
       simp only [okp, Option.some.injEq, Prod.mk.injEq] at h
       obtain ⟨rfl, rfl⟩ := h
       first
        | (have := nn_ok hg
           simp only [Builtin.len_, hts, SV.val, Sem.run_bind, run_underlying hu, Result.andThen_ok, X.nat, List.getElem?_toArray, List.getElem?_cons_zero, Sem.run_pure, goInt, Int.toNat_of_nonneg this]; done)
        | (simp [Builtin.len_, hts, SV.val, run_underlying hu, goInt, mSlen_den, X.den]; done))

def pMinMax (mx : Bool) : List SV → PR
  | [.int k a, .int k' b] => bif decide (k = k') then okp (.int k (mI2 (bif mx then .max else .min) a b)) else none
  | _ => none

def mBnot (k : IntKind) : X → X
  | .n v => .n (bitsZ .xor k (if k.signed then -1 else k.max) v)
  | x => .u (.bnot k) x
theorem mBnot_den (ρ : Env) (k : IntKind) (x : X) : ((mBnot k x).den ρ).asI = bitsZ .xor k (if k.signed then -1 else k.max) (x.den ρ).asI := by
  unfold mBnot
  split <;> simp [X.den, O1.den]
def pUn : UnOp → SV → PR
  | .not, .bool x => okp (.bool (mNot x))
  | .neg, .int k x => okp (.int k (mWrap k (mI2 .sub (.n 0) x)))
  | .xor, .int k x => okp (.int k (mBnot k x))
  | _, _ => none
theorem pUn_ok {op : UnOp} {x s : SV} {g : List X} (h : pUn op x = some (g, s)) (ρ : Env) (σ : Pl) (w : World) :
    (Op.unary op (x.val ρ σ)).run P w = .ok (s.val ρ σ) w := by
  unfold pUn at h
  split at h <;> (try (cases h; done)) <;> simp only [okp, Option.some.injEq, Prod.mk.injEq] at h <;> obtain ⟨rfl, rfl⟩ := h
  · simp [Op.unary, SV.val, mNot_den]
  · simp [Op.unary, SV.val, Op.intArith, mWrap_den, mI2_den, O2.den, X.den]
  · simp [Op.unary, SV.val, Op.intBits, mBnot_den, bitsZ]

def pConv (tt : Nat → Option Ty) (src dst : Nat) (x : SV) : PR :=
  (tt src).bind fun _ => (tt dst).bind fun ty => match ty.ul, x with
    | .int k, .int _ a => okp (.int k (mWrap k a))
    | .str, .str a => okp (.str a)
    | _, _ => none
theorem und_some {tt : Nat → Option Ty} (ht : TabOk P tt) {t : Nat} {ty : Ty} (h : tt t = some ty) (hk : ty.ul.known = true) : ∃ d, P.underlying t = some d := by
  have := (ht t ty h).ul
  cases hu : ty.ul <;> rw [hu] at this hk <;> simp only [ULOk] at this <;> simp [UL.known] at hk
  case struct fs => obtain ⟨F, hF, _⟩ := this; exact ⟨_, hF⟩
  case func => obtain ⟨ps, rs, v, hF⟩ := this; exact ⟨_, hF⟩
  case iface => obtain ⟨ms, hF⟩ := this; exact ⟨_, hF⟩
  all_goals exact ⟨_, this⟩
def pConv' (tt : Nat → Option Ty) (src dst : Nat) (x : SV) : PR :=
  (tt src).bind fun sy => bif sy.ul.known then pConv tt src dst x else none
theorem pConv_ok {tt : Nat → Option Ty} (ht : TabOk P tt) {src dst : Nat} {x s : SV} {g : List X} (h : pConv' tt src dst x = some (g, s)) (ρ : Env) (σ : Pl) (w : World) :
    (convert src dst (x.val ρ σ)).run P w = .ok (s.val ρ σ) w := by
  unfold pConv' at h
  cases h0 : tt src with
  | none => simp [h0] at h
  | some sy =>
    simp only [h0, Option.bind_some] at h
    cases hk : sy.ul.known with
    | false => simp [hk] at h
    | true =>
      simp only [hk, cond_true, pConv, h0, Option.bind_some] at h
      obtain ⟨ds, hds⟩ := und_some ht h0 hk
      cases h1 : tt dst with
      | none => simp [h1] at h
      | some ty =>
        simp only [h1, Option.bind_some] at h
        have hu := (ht dst ty h1).ul
        split at h <;> (try (cases h; done)) <;> rename_i hul <;> rw [hul] at hu <;> simp only [ULOk] at hu <;>
          simp only [okp, Option.some.injEq, Prod.mk.injEq] at h <;> obtain ⟨rfl, rfl⟩ := h
        · simp only [convert, Sem.run_bind, run_underlying hds, run_underlying hu, Result.andThen_ok, SV.val, mWrap_den]
          simp [Conv.intToInt]
        · simp only [convert, Sem.run_bind, run_underlying hds, run_underlying hu, Result.andThen_ok, SV.val]
          simp

/-- a sum of two strings. -/
def pCat : SV → SV → PR
  | .str (.s a), .str (.s b) => okp (.str (.s (a ++ b)))
  | .str a, .str b => some ([mB2 .le (mI2 .add (mSlen a) (mSlen b)) (.n 9223372036854775807)], .str (.o .sapp a b))
  | _, _ => none
theorem bytesOf_append (a b : List Nat) : bytesOf (a ++ b) = bytesOf a ++ bytesOf b := by
  apply ByteArray.ext
  simp [bytesOf, ByteArray.data_append]
end Go.SE
end
