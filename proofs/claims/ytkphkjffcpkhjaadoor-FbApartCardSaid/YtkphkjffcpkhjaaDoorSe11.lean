import Derived.Test.YtkphkjffcpkhjaaDoorSe10
/-! The symbolic executor: loads, stores, new blocks. -/
noncomputable section
set_option linter.unusedSimpArgs false
set_option linter.unusedVariables false
namespace Go.SE
open Go.RowKit (Below)
variable {P : Program}

/-- an operation's outcome: what must hold; its value (none: it has none); the memory behind it. -/
abbrev MR := Option (List X × Option SV × H)

def newB (h : H) : Option Nat → Option (Nat × H)
  | none => bif Nat.beq h.xb 0 then some (h.nb, { h with nb := h.nb + 1 }) else none
  | some i => bif h.xb.testBit i then none else some (h.nb + i, { h with xb := h.xb ||| 2 ^ i })
def newV (h : H) : Option Nat → Option (Nat × H)
  | none => bif Nat.beq h.xv 0 then some (h.nv, { h with nv := h.nv + 1 }) else none
  | some i => bif h.xv.testBit i then none else some (h.nv + i, { h with xv := h.xv ||| 2 ^ i })
theorem testBit_or_pow (x i j : Nat) : (x ||| 2 ^ i).testBit j = (x.testBit j || decide (i = j)) := by
  rw [Nat.testBit_or, Nat.testBit_two_pow]
structure NewB (h h1 : H) (id : Nat) : Prop where
  fresh : ¬ h.alB id
  al : h1.alB id
  le : h.le h1
  hp : h1.hp = h.hp
  fs : h1.fs = h.fs
structure NewV (h h1 : H) (id : Nat) : Prop where
  fresh : ¬ h.alV id
  al : h1.alV id
  le : h.le h1
  hp : h1.hp = h.hp
  fs : h1.fs = h.fs
theorem newB_ok {h h1 : H} {d : Option Nat} {id : Nat} (e : newB h d = some (id, h1)) : NewB h h1 id := by
  cases d with
  | none =>
    simp only [newB] at e
    cases hx : Nat.beq h.xb 0 with
    | false => simp [hx] at e
    | true =>
      have hx0 := beq_true.1 hx
      simp only [hx, cond_true, Option.some.injEq, Prod.mk.injEq] at e
      obtain ⟨rfl, rfl⟩ := e
      refine ⟨?_, .inl (Nat.lt_succ_self _), ⟨fun i hi => hi, fun i hi => ?_⟩, rfl, rfl⟩
      · rintro (h1 | ⟨_, h1⟩)
        · exact Nat.lt_irrefl _ h1
        · rw [hx0] at h1; simp at h1
      · rcases hi with h1 | ⟨_, h1⟩
        · exact .inl (Nat.lt_succ_of_lt h1)
        · rw [hx0] at h1; simp at h1
  | some i =>
    simp only [newB] at e
    cases hx : h.xb.testBit i with
    | true => simp [hx] at e
    | false =>
      simp only [hx, cond_false, Option.some.injEq, Prod.mk.injEq] at e
      obtain ⟨rfl, rfl⟩ := e
      refine ⟨?_, .inr ⟨Nat.le_add_right _ _, ?_⟩, ⟨fun i hi => hi, fun j hj => ?_⟩, rfl, rfl⟩
      · rintro (h1 | ⟨_, h1⟩)
        · omega
        · rw [Nat.add_sub_cancel_left, hx] at h1; cases h1
      · show (h.xb ||| 2 ^ i).testBit (h.nb + i - h.nb) = true
        rw [Nat.add_sub_cancel_left, testBit_or_pow]; simp
      · rcases hj with h1 | ⟨h0, h1⟩
        · exact .inl h1
        · refine .inr ⟨h0, ?_⟩
          show (h.xb ||| 2 ^ i).testBit (j - h.nb) = true
          rw [testBit_or_pow, h1]; rfl
theorem newV_ok {h h1 : H} {d : Option Nat} {id : Nat} (e : newV h d = some (id, h1)) : NewV h h1 id := by
  cases d with
  | none =>
    simp only [newV] at e
    cases hx : Nat.beq h.xv 0 with
    | false => simp [hx] at e
    | true =>
      have hx0 := beq_true.1 hx
      simp only [hx, cond_true, Option.some.injEq, Prod.mk.injEq] at e
      obtain ⟨rfl, rfl⟩ := e
      refine ⟨?_, .inl (Nat.lt_succ_self _), ⟨fun i hi => ?_, fun i hi => hi⟩, rfl, rfl⟩
      · rintro (h1 | ⟨_, h1⟩)
        · exact Nat.lt_irrefl _ h1
        · rw [hx0] at h1; simp at h1
      · rcases hi with h1 | ⟨_, h1⟩
        · exact .inl (Nat.lt_succ_of_lt h1)
        · rw [hx0] at h1; simp at h1
  | some i =>
    simp only [newV] at e
    cases hx : h.xv.testBit i with
    | true => simp [hx] at e
    | false =>
      simp only [hx, cond_false, Option.some.injEq, Prod.mk.injEq] at e
      obtain ⟨rfl, rfl⟩ := e
      refine ⟨?_, .inr ⟨Nat.le_add_right _ _, ?_⟩, ⟨fun j hj => ?_, fun i hi => hi⟩, rfl, rfl⟩
      · rintro (h1 | ⟨_, h1⟩)
        · omega
        · rw [Nat.add_sub_cancel_left, hx] at h1; cases h1
      · show (h.xv ||| 2 ^ i).testBit (h.nv + i - h.nv) = true
        rw [Nat.add_sub_cancel_left, testBit_or_pow]; simp
      · rcases hj with h1 | ⟨h0, h1⟩
        · exact .inl h1
        · refine .inr ⟨h0, ?_⟩
          show (h.xv ||| 2 ^ i).testBit (j - h.nv) = true
          rw [testBit_or_pow, h1]; rfl

/-- What an operation's law says. -/
def isNx (ρ : Env) (σ : Pl) : Option SV → Next → Prop
  | none, .skip => True
  | some s, .value v => v = s.val ρ σ
  | _, _ => False
def OpOk (P : Program) (o : Oper) (h : H) (g : List X) (sv : Option SV) (h' : H) (w0 : W0) (B : Nat) (ρ : Env) (σ : Pl) (a : Act) (w : World) : Prop :=
  (∀ ρ : Env, ρ.f = w0.i.f ∧ ρ.p = w0.i.p → (∀ f ∈ h.fs, f.ok ρ) → ∀ q ∈ g, (q.den ρ).asB = true) →
  ∃ ρ' σ' nx w', (execOp a.eval o).run P w = .ok nx w' ∧ Ext h ρ ρ' σ σ' ∧ h.le h' ∧ HRep w0 B ρ' σ' h' w' ∧ ∀ ρ₁ σ₁, Ext h' ρ' ρ₁ σ' σ₁ → isNx ρ₁ σ₁ sv nx

theorem isNx_det {ρ ρ₁ : Env} {σ σ₁ : Pl} {sv : Option SV} {n : Next} (h : isNx ρ σ sv n) (h1 : ∃ m, m = n ∧ isNx ρ₁ σ₁ sv m) : isNx ρ₁ σ₁ sv n := by
  obtain ⟨m, rfl, h1⟩ := h1; exact h1

/-- An operation that makes nothing. -/
theorem OpOk.of_plain {o : Oper} {h : H} {g : List X} {sv : Option SV} {h' : H} {w0 : W0} {B : Nat} {ρ : Env} {σ : Pl} {a : Act} {w : World} {fr : List (Nat × SV)} {n : Nat}
    (hr : HRep w0 B ρ σ h w) (hf : FRep ρ σ h fr n a) (hal : h.le h') (hal' : h'.le h)
    (pl : ∀ ρ σ, HOk w0 B ρ σ h w → FrOk ρ σ fr n a → (∀ q ∈ g, (q.den ρ).asB = true) → ∃ nx w', (execOp a.eval o).run P w = .ok nx w' ∧ HOk w0 B ρ σ h' w' ∧ isNx ρ σ sv nx) :
    OpOk P o h g sv h' w0 B ρ σ a w := by
  intro hg
  obtain ⟨nx, w', hrun, hok, hnx⟩ := pl ρ σ hr.now hf.now (hg ρ hr.now.ip hr.now.facts)
  have key : ∀ ρ₁ σ₁, Ext h' ρ ρ₁ σ σ₁ → HOk w0 B ρ₁ σ₁ h' w' ∧ isNx ρ₁ σ₁ sv nx := by
    intro ρ₁ σ₁ he
    have he' : Ext h ρ ρ₁ σ σ₁ := he.of_le hal
    have h1 := hr _ _ he'
    obtain ⟨nx', w'', hrun', hok', hnx'⟩ := pl ρ₁ σ₁ h1 (hf _ _ he') (hg ρ₁ h1.ip h1.facts)
    rw [hrun] at hrun'
    cases hrun'
    exact ⟨hok', hnx'⟩
  exact ⟨ρ, σ, nx, w', hrun, Ext.refl _ _ _, hal, fun ρ₁ σ₁ he => (key ρ₁ σ₁ he).1, fun ρ₁ σ₁ he => (key ρ₁ σ₁ he).2⟩

/-- A new block. -/
theorem alloc_ok {w0 : W0} {B : Nat} {ρ : Env} {σ : Pl} {h h1 : H} {w : World} {id : Nat} (hr : HRep w0 B ρ σ h w) (hn : NewB h h1 id) (k : Blk) (obj : Obj)
    (hk : ∀ ρ₁ σ₁, Ext h ρ ρ₁ σ σ₁ → σ₁ id = (w.heap.size, 0) → BlkOk B ρ₁ σ₁ (w.alloc obj) id k) :
    ∃ σ', Ext h ρ ρ σ σ' ∧ σ' id = (w.heap.size, 0) ∧ h.le { h1 with hp := fset id k h1.hp } ∧ HRep w0 B ρ σ' { h1 with hp := fset id k h1.hp } (w.alloc obj) := by
  refine ⟨fun i => if i = id then (w.heap.size, 0) else σ i, ⟨rfl, rfl, fun _ _ => rfl, fun i hi => ?_⟩, by simp, ⟨hn.le.v, hn.le.b⟩, ?_⟩
  · have : i ≠ id := fun e => hn.fresh (e ▸ hi)
    simp [this]
  · intro ρ₁ σ₁ he
    have he' : Ext h ρ ρ₁ σ σ₁ := by
      refine ⟨he.f, he.p, fun i hi => he.v i (hn.le.v i hi), fun i hi => ?_⟩
      have h2 := he.b i (hn.le.b i hi)
      have : i ≠ id := fun e => hn.fresh (e ▸ hi)
      simpa [this] using h2
    have hid : σ₁ id = (w.heap.size, 0) := by have := he.b id hn.al; simpa using this
    have h1 := hr _ _ he'
    refine h1.change id k (by show fset id k _ = _; rw [hn.hp]) hn.fs rfl rfl rfl (by simp) ?_ (by rw [hid]; exact h1.size) ?_ (hk _ _ he' hid)
    · intro i hi _
      exact Below.heap_alloc _ _ _ hi
    · intro c l hc hcl ho
      rw [hid]
      have := (h1.blk c l hcl).own_ge ho
      simp only []; omega

/-- A variable gets a value. -/
def setV (ρ : Env) (i : Nat) (u : U) : Env := { ρ with v := fun j => if j = i then u else ρ.v j }
theorem ext_setV {h h1 : H} {id : Nat} (hn : NewV h h1 id) (ρ : Env) (σ : Pl) (u : U) : Ext h ρ (setV ρ id u) σ σ := by
  refine ⟨rfl, rfl, fun i hi => ?_, fun _ _ => rfl⟩
  have : i ≠ id := fun e => hn.fresh (e ▸ hi)
  simp [setV, this]

/-! Loads. -/
def mLoad (tt : Nat → Option Ty) (h : H) (t : Nat) : SV → MR
  | .ptr b r w j => (tt t).bind fun ty => (fget h.hp b).bind fun k => (rdBlk ty k r w j).map fun q => (q.1, some q.2, h)
  | .gp g r => (tt t).bind fun ty => (litX r).bind fun n => match ty.ul with
    | .int .u8 => bif Nat.blt n 256 then some ([.u (.f 999) (.n g)], some (.int .u8 (.n (asciiAt n))), h) else none
    | _ => none
  | _ => none
theorem mLoad_ok {tt : Nat → Option Ty} (ht : TabOk P tt) {h h' : H} {t : Nat} {x : SV} {sv : Option SV} {g : List X} (e : mLoad tt h t x = some (g, sv, h'))
    {w0 : W0} {B : Nat} {ρ : Env} {σ : Pl} {w : World} (hr : HOk w0 B ρ σ h w) (hg : ∀ q ∈ g, (q.den ρ).asB = true) :
    ∃ s, sv = some s ∧ h' = h ∧ (Instr.loadAt t (x.val ρ σ)).run P w = .ok (s.val ρ σ) w := by
  unfold mLoad at e
  split at e
  · rename_i b r wd j
    obtain ⟨ty, hty, e⟩ := bind1 e
    obtain ⟨k, hk, e⟩ := bind1 e
    cases hq : rdBlk ty k r wd j with
    | none => simp [hq] at e
    | some q =>
      obtain ⟨g', s⟩ := q
      simp only [hq, Option.map_some, Option.some.injEq, Prod.mk.injEq] at e
      obtain ⟨rfl, rfl, rfl⟩ := e
      refine ⟨s, rfl, rfl, ?_⟩
      have := rdBlk_ok ht hty (hr.blk b k hk) hq hg
      simp only [Instr.loadAt, SV.val, Instr.sureAddr, Sem.run_bind, Sem.run_pure, Result.andThen_ok, this]
  · rename_i g0 r
    obtain ⟨ty, hty, e⟩ := bind1 e
    obtain ⟨n, hn, e⟩ := bind1 e
    split at e
    · rename_i hul
      cases hb : Nat.blt n 256 with
      | false => simp [hb] at e
      | true =>
        simp only [hb, cond_true, Option.some.injEq, Prod.mk.injEq] at e
        obtain ⟨rfl, rfl, rfl⟩ := e
        refine ⟨_, rfl, rfl, ?_⟩
        have h9 := hg _ List.mem_cons_self
        simp only [X.den, O1.den] at h9
        obtain ⟨h1, h2⟩ := hr.lay g0 (by rw [← hr.ip.1]; exact h9)
        have h3 := h2 n (by simpa [Nat.blt_eq] using hb)
        have h4 : w.cell? ⟨g0, n, none⟩ = some (.int .u8 (asciiAt n)) := by rw [← h3]; exact hr.below.cell (p := ⟨g0, n, none⟩) h1
        have hto := ht t ty hty
        have hkn : ty.ul.known = true := by rw [hul]; rfl
        have hag : ty.ul.agg = false := by rw [hul]; rfl
        simp only [Instr.loadAt, SV.val, Instr.sureAddr, Sem.run_bind, Sem.run_pure, Result.andThen_ok, litX_nat hn ρ]
        unfold loadVar
        simp [run_agg_ok hto hkn, hag, h4, X.den]
    · cases e
  · cases e

/-! Stores. -/
def wrBlk (ty : Ty) (v : SV) : Blk → X → Nat → Nat → Option (List X × Blk)
  | .cells l e tot, r, w, j => (litX r).bind fun n =>
    bif Nat.beq v.cells.length ty.size && (Nat.ble (n * w + j + v.cells.length) l.length && v.cells.all SV.one) then some ([], .cells (splice l (n * w + j) v.cells) e tot) else none
  | .rows true [.int k] x e tot, r, 1, 0 => match v with
    | .int k' y => bif decide (k = k') && Nat.beq ty.size 1 then some (inB r (mLen x), .rows true [.int k] (.c .set x r y) e tot) else none
    | _ => none
  | _, _, _, _ => none
def mStore (tt : Nat → Option Ty) (h : H) (t : Nat) : SV → SV → MR
  | .ptr b r w j, v => (tt t).bind fun ty => (fget h.hp b).bind fun k => (wrBlk ty v k r w j).map fun q => (q.1, none, { h with hp := fset b q.2 h.hp })
  | _, _ => none

theorem oneCell_vals {l : List SV} (h : l.all SV.one = true) (ρ : Env) (σ : Pl) : ∀ v ∈ l.map (SV.val ρ σ), v.oneCell' = true := by
  intro v hv
  simp only [List.mem_map] at hv
  obtain ⟨s, hs, rfl⟩ := hv
  exact SV.one_val (List.all_eq_true.1 h s hs)

theorem setRow_change {w0 : W0} {B : Nat} {ρ : Env} {σ : Pl} {h : H} {w : World} (hr : HOk w0 B ρ σ h w) {b : Nat} {k k' : Blk} (hk : fget h.hp b = some k) (ho : k.own = true)
    (c' : Array Value) (hk' : BlkOk B ρ σ (w.setRow (σ b).1 c') b k') : HOk w0 B ρ σ { h with hp := fset b k' h.hp } (w.setRow (σ b).1 c') := by
  have hge := (hr.blk b k hk).own_ge ho
  refine hr.change b k' rfl rfl rfl rfl rfl (by simp) ?_ hge.1 ?_ hk'
  · intro i _ hi
    exact setRow_other w _ i c' hi
  · intro c l hc hcl hol e
    exact hc (hr.apart c b l k hcl hk hol ho e)

theorem mStore_ok {tt : Nat → Option Ty} (ht : TabOk P tt) {h h' : H} {t : Nat} {x v : SV} {sv : Option SV} {g : List X} (e : mStore tt h t x v = some (g, sv, h'))
    {w0 : W0} {B : Nat} {ρ : Env} {σ : Pl} {w : World} (hr : HOk w0 B ρ σ h w) (hg : ∀ q ∈ g, (q.den ρ).asB = true) :
    sv = none ∧ ∃ w', (Instr.storeAt t (x.val ρ σ) (v.val ρ σ)).run P w = .ok () w' ∧ HOk w0 B ρ σ h' w' := by
  unfold mStore at e
  split at e
  case h_2 => cases e
  rename_i b r wd j
  obtain ⟨ty, hty, e⟩ := bind1 e
  obtain ⟨k, hk, e⟩ := bind1 e
  cases hq : wrBlk ty v k r wd j with
  | none => simp [hq] at e
  | some q =>
    obtain ⟨g', k'⟩ := q
    simp only [hq, Option.map_some, Option.some.injEq, Prod.mk.injEq] at e
    obtain ⟨rfl, rfl, rfl⟩ := e
    refine ⟨rfl, ?_⟩
    have hb := hr.blk b k hk
    have hto := ht t ty hty
    unfold wrBlk at hq
    split at hq
    · rename_i l el tot
      obtain ⟨n, hn, hq⟩ := bind1 hq
      cases hc : (Nat.beq v.cells.length ty.size && (Nat.ble (n * wd + j + v.cells.length) l.length && v.cells.all SV.one)) with
      | false => simp [hc] at hq
      | true =>
        simp only [hc, cond_true, Option.some.injEq, Prod.mk.injEq] at hq
        obtain ⟨rfl, rfl⟩ := hq
        simp only [Bool.and_eq_true, beq_true, Nat.ble_eq] at hc
        obtain ⟨hc1, hc2, hc3⟩ := hc
        obtain ⟨hB, h0, c, hcw, hcs, hcl⟩ := hb
        have hcl' : l.length ≤ c.size := by
          rcases Nat.eq_zero_or_pos l.length with hz | hz
          · omega
          · have h1 := hcl (l.length - 1) (l[l.length - 1]'(by omega)) (List.getElem?_eq_getElem (by omega))
            have := (Array.getElem?_eq_some_iff.1 h1).1
            omega
        have hst := run_storeCells_at P (σ b).1 (n * wd + j) el (v.cells.map (SV.val ρ σ)) 0 c w hcw (by simp; omega) (oneCell_vals hc3 ρ σ)
        simp only [Nat.add_zero, List.length_map] at hst
        have hadr : adr σ b (n * wd + j) = ⟨(σ b).1, n * wd + j, none⟩ := by simp [adr, h0]
        have hrun : (Instr.storeAt t ((SV.ptr b r wd j).val ρ σ) (v.val ρ σ)).run P w = .ok () (w.setRow (σ b).1 (c.toList.take (n * wd + j) ++ v.cells.map (SV.val ρ σ) ++ c.toList.drop (n * wd + j + v.cells.length)).toArray) := by
          simp only [Instr.storeAt, SV.val, Instr.sureAddr, Sem.run_bind, Sem.run_pure, Result.andThen_ok, storeVar, SV.cells_val, run_size_ok hto]
          rw [if_neg (by simp; omega)]
          rw [litX_nat hn ρ, hadr]
          exact hst
        refine ⟨_, hrun, setRow_change hr hk rfl _ ?_⟩
        refine ⟨hB, h0, _, setRow_heap w _ c _ el _ hcw, ?_, ?_⟩
        · rw [← hcs]; simp; omega
        · intro i s hs
          unfold splice at hs
          simp only [List.getElem?_toArray]
          by_cases h1 : i < n * wd + j
          · rw [List.append_assoc, List.getElem?_append_left (by simp; omega), List.getElem?_take_of_lt h1] at hs
            rw [List.append_assoc, List.getElem?_append_left (by simp; omega), List.getElem?_take_of_lt h1]
            rw [Array.getElem?_toList]; exact hcl i s hs
          · rw [List.append_assoc, List.getElem?_append_right (by simp; omega)] at hs
            rw [List.append_assoc, List.getElem?_append_right (by simp; omega)]
            have e1 : (l.take (n * wd + j)).length = n * wd + j := by simp; omega
            have e2 : (c.toList.take (n * wd + j)).length = n * wd + j := by simp; omega
            rw [e1] at hs
            rw [e2]
            by_cases h2 : i - (n * wd + j) < v.cells.length
            · rw [List.getElem?_append_left h2] at hs
              rw [List.getElem?_append_left (by simpa using h2), List.getElem?_map, hs]; rfl
            · rw [List.getElem?_append_right (by omega), List.getElem?_drop] at hs
              rw [List.getElem?_append_right (by simp; omega), List.getElem?_drop, List.length_map, Array.getElem?_toList]
              exact hcl _ _ hs
    · rename_i k0 x0 el tot r1
      cases v <;> (try (simp only [reduceCtorEq] at hq; done))
      · rename_i k' y
        simp only at hq
        cases hc : (decide (k0 = k') && Nat.beq ty.size 1) with
        | false => simp [hc] at hq
        | true =>
          simp only [hc, cond_true, Option.some.injEq, Prod.mk.injEq] at hq
          obtain ⟨rfl, rfl⟩ := hq
          simp only [Bool.and_eq_true, decide_eq_true_eq, beq_true] at hc
          obtain ⟨rfl, hsz⟩ := hc
          obtain ⟨hB, h0, c, hcw, hcs, hcl⟩ := hb
          have hi := inB_ok hg
          rw [mLen_den] at hi
          have hlt : r.nat ρ < (x0.den ρ).asL.length := by unfold X.nat; omega
          have hcell := hcl (r.nat ρ) 0 (.int k0) hlt rfl
          simp only [List.length_singleton, Nat.mul_one, Nat.add_zero] at hcell
          have hsz' := (Array.getElem?_eq_some_iff.1 hcell).1
          have hst := run_storeCells_at P (σ b).1 (r.nat ρ) el [Value.int k0 (y.den ρ).asI] 0 c w hcw (by simp; omega) (by intro v hv; simp at hv; subst hv; rfl)
          simp only [Nat.add_zero, List.length_singleton] at hst
          have hadr : adr σ b (r.nat ρ * 1 + 0) = ⟨(σ b).1, r.nat ρ, none⟩ := by simp [adr, h0]
          refine ⟨w.setRow (σ b).1 (c.toList.take (r.nat ρ) ++ [Value.int k0 (y.den ρ).asI] ++ c.toList.drop (r.nat ρ + 1)).toArray, ?_, setRow_change hr hk rfl _ ?_⟩
          · show (Instr.storeAt t (.pointer (some (adr σ b (r.nat ρ * 1 + 0)))) ((SV.int k0 y).val ρ σ)).run P w = _
            simp only [Instr.storeAt, Instr.sureAddr, Sem.run_bind, Sem.run_pure, Result.andThen_ok, storeVar, SV.cells_val, run_size_ok hto]
            rw [if_neg (by simp [SV.cells, hsz])]
            rw [hadr]
            exact hst
          · refine ⟨hB, h0, _, setRow_heap w _ c _ el _ hcw, ?_, ?_⟩
            · rw [← hcs]; simp; omega
            · intro r' j' k' hr' hk'
              cases j' with
              | succ j' => simp at hk'
              | zero =>
                simp only [List.getElem?_cons_zero, Option.some.injEq] at hk'
                subst hk'
                simp only [X.den, O3.den, asL_l, List.length_set] at hr'
                have hset : c.toList.take (r.nat ρ) ++ [Value.int k0 (y.den ρ).asI] ++ c.toList.drop (r.nat ρ + 1) = c.toList.set (r.nat ρ) (Value.int k0 (y.den ρ).asI) := by
                  rw [List.set_eq_take_append_cons_drop, if_pos (by simpa using hsz')]; simp
                rw [hset]
                simp only [List.length_singleton, Nat.mul_one, Nat.add_zero, List.getElem?_toArray, X.den, O3.den, asL_l]
                have hu : ∀ u : U, rowU 1 u 0 = u := fun u => by simp [rowU]
                rw [hu]
                have hold := hcl r' 0 (.int k0) hr' rfl
                simp only [List.length_singleton, Nat.mul_one, Nat.add_zero, hu] at hold
                by_cases e : r' = r.nat ρ
                · subst e
                  rw [List.getElem?_set_self (by simpa using hsz')]
                  simp only [X.nat] at *
                  rw [List.getD_eq_getElem?_getD, List.getElem?_set_self hlt]; rfl
                · rw [List.getElem?_set_ne (Ne.symm e), Array.getElem?_toList, hold]
                  rw [List.getD_eq_getElem?_getD, List.getD_eq_getElem?_getD]
                  simp only [X.nat] at e
                  rw [List.getElem?_set_ne (Ne.symm e)]
    · cases hq
end Go.SE
end
