import Derived.Test.YtkphkjffcpkhjaaDoorSe14
import Derived.Laws.MakeOwn
/-! The symbolic executor: what makes memory. -/
noncomputable section
set_option linter.unusedSimpArgs false
set_option linter.unusedVariables false
namespace Go.SE
open Go.RowKit (Below)
variable {P : Program}

/-- A block of cells, new. -/
def newCells (h : H) (d : Option Nat) (l : List SV) (t : Nat) : Option (Nat × H) :=
  (newB h d).map fun p => (p.1, { p.2 with hp := fset p.1 (.cells l t (.n l.length)) p.2.hp })
theorem newCells_ok {h h' : H} {d : Option Nat} {l : List SV} {t id : Nat} (e : newCells h d l t = some (id, h')) {w0 : W0} {B : Nat} {ρ : Env} {σ : Pl} {w : World}
    (hr : HRep w0 B ρ σ h w) (vs : List Value) (hvs : ∀ ρ₁ σ₁, Ext h ρ ρ₁ σ σ₁ → l.map (SV.val ρ₁ σ₁) = vs) :
    ∃ σ', Ext h ρ ρ σ σ' ∧ σ' id = (w.heap.size, 0) ∧ h.le h' ∧ HRep w0 B ρ σ' h' (w.alloc (.cells vs.toArray t)) ∧ h'.alB id := by
  unfold newCells at e
  cases hn : newB h d with
  | none => simp [hn] at e
  | some p =>
    obtain ⟨i, h1⟩ := p
    simp only [hn, Option.map_some, Option.some.injEq, Prod.mk.injEq] at e
    obtain ⟨rfl, rfl⟩ := e
    have hn' := newB_ok hn
    obtain ⟨σ', h2, h3, h4, h5⟩ := alloc_ok hr hn' (.cells l t (.n l.length)) (.cells vs.toArray t) (by
      intro ρ₁ σ₁ he hid
      refine ⟨by rw [hid]; exact hr.now.size, by rw [hid], vs.toArray, by rw [hid]; exact heap_alloc_new w _, ?_, ?_⟩
      · rw [← hvs ρ₁ σ₁ he]; simp [X.nat, X.den]
      · intro j v hj
        rw [← hvs ρ₁ σ₁ he]
        simp [hj])
    exact ⟨σ', h2, h3, h4, h5, hn'.al⟩

def ptrTo (id : Nat) : SV := .ptr id (.n 0) 0 0
theorem ptrTo_val (ρ : Env) (σ : Pl) (id : Nat) : (ptrTo id).val ρ σ = .pointer (some (adr σ id 0)) := by
  simp [ptrTo, SV.val, X.nat, X.den]

def mAlloc (tt : Nat → Option Ty) (h : H) (d : Option Nat) (t : Nat) : MR :=
  (tt t).bind fun ty => ty.zero.bind fun z => (newCells h d z.cells t).map fun p => ([], some (ptrTo p.1), p.2)
theorem mAlloc_ok {tt : Nat → Option Ty} (ht : TabOk P tt) {h h' : H} {d : Option Nat} {t : Nat} {sv : Option SV} {g : List X} (e : mAlloc tt h d t = some (g, sv, h'))
    {o : Oper} {w0 : W0} {B : Nat} {ρ : Env} {σ : Pl} {a : Act} {w : World} (hr : HRep w0 B ρ σ h w)
    (hop : execOp a.eval o = (do pure (.value (← Instr.alloc t true (.tuple #[]))))) : OpOk P o h g sv h' w0 B ρ σ a w := by
  unfold mAlloc at e
  obtain ⟨ty, hty, e⟩ := bind1 e
  obtain ⟨z, hz, e⟩ := bind1 e
  cases hc : newCells h d z.cells t with
  | none => simp [hc] at e
  | some p =>
    obtain ⟨id, h1⟩ := p
    simp only [hc, Option.map_some, Option.some.injEq, Prod.mk.injEq] at e
    obtain ⟨rfl, rfl, rfl⟩ := e
    intro _
    have hzz : ∀ ρ₁ σ₁, z.val ρ₁ σ₁ = z.val ρ σ := by
      intro ρ₁ σ₁
      obtain ⟨i, _, _, _, h3⟩ := (ht t ty hty).info
      have a1 := h3 z hz ρ₁ σ₁
      have a2 := h3 z hz ρ σ
      rw [a1] at a2
      exact Option.some.inj a2
    obtain ⟨σ', h2, h3, h4, h5, h6⟩ := newCells_ok hc hr (z.val ρ σ).cells.toList (by
      intro ρ₁ σ₁ _
      have := SV.cells_val ρ₁ σ₁ z
      rw [hzz ρ₁ σ₁] at this
      rw [this])
    refine ⟨ρ, σ', .value (.pointer (some ⟨w.heap.size, 0, none⟩)), _, ?_, h2, h4, h5, ?_⟩
    · rw [hop]
      simp only [Instr.alloc, Sem.run_bind, run_zero_ok (ht t ty hty) hz ρ σ w, Result.andThen_ok, newVar, newRow, run_newObj, Sem.run_pure, World.alloc_eq, Array.toArray_toList]
    · intro ρ₁ σ₁ he
      simp only [isNx, ptrTo_val]
      rw [show adr σ₁ id 0 = ⟨w.heap.size, 0, none⟩ by simp [adr, he.b id h6, h3]]

def mBox (h : H) (d : Option Nat) (t : Nat) (v : SV) : MR := (newCells h d v.cells t).map fun p => ([], some (ptrTo p.1), p.2)
theorem mBox_ok {h h' : H} {d : Option Nat} {t : Nat} {v : SV} {sv : Option SV} {g : List X} (e : mBox h d t v = some (g, sv, h'))
    {o : Oper} {w0 : W0} {B : Nat} {ρ : Env} {σ : Pl} {a : Act} {w : World} (hr : HRep w0 B ρ σ h w) (fv : Value)
    (hop : execOp a.eval o = (do pure (.value (← Instr.box t fv)))) (hx : ∀ ρ₁ σ₁, Ext h ρ ρ₁ σ σ₁ → fv = v.val ρ₁ σ₁) : OpOk P o h g sv h' w0 B ρ σ a w := by
  unfold mBox at e
  cases hc : newCells h d v.cells t with
  | none => simp [hc] at e
  | some p =>
    obtain ⟨id, h1⟩ := p
    simp only [hc, Option.map_some, Option.some.injEq, Prod.mk.injEq] at e
    obtain ⟨rfl, rfl, rfl⟩ := e
    intro _
    obtain ⟨σ', h2, h3, h4, h5, h6⟩ := newCells_ok hc hr fv.cells.toList (by
      intro ρ₁ σ₁ he
      rw [hx ρ₁ σ₁ he, SV.cells_val])
    refine ⟨ρ, σ', .value (.pointer (some ⟨w.heap.size, 0, none⟩)), _, ?_, h2, h4, h5, ?_⟩
    · rw [hop]
      simp only [Instr.box, Sem.run_bind, Result.andThen_ok, newVar, newRow, run_newObj, Sem.run_pure, World.alloc_eq, Array.toArray_toList]
    · intro ρ₁ σ₁ he
      simp only [isNx, ptrTo_val]
      rw [show adr σ₁ id 0 = ⟨w.heap.size, 0, none⟩ by simp [adr, he.b id h6, h3]]

def mMakeMap (tt : Nat → Option Ty) (h : H) (d : Option Nat) (t : Nat) : MR :=
  (mapTy tt t).bind fun k => (newB h d).map fun p => ([], some (.map p.1), { p.2 with hp := fset p.1 (.map k (.u .asm .nil) []) p.2.hp })
theorem mMakeMap_ok {tt : Nat → Option Ty} {h h' : H} {d : Option Nat} {t : Nat} {sv : Option SV} {g : List X} (e : mMakeMap tt h d t = some (g, sv, h'))
    {o : Oper} {w0 : W0} {B : Nat} {ρ : Env} {σ : Pl} {a : Act} {w : World} (hr : HRep w0 B ρ σ h w)
    (hop : execOp a.eval o = (do pure (.value (← Instr.makeMap t none)))) : OpOk P o h g sv h' w0 B ρ σ a w := by
  unfold mMakeMap at e
  obtain ⟨k, hk, e⟩ := bind1 e
  cases hn : newB h d with
  | none => simp [hn] at e
  | some p =>
    obtain ⟨id, h1⟩ := p
    simp only [hn, Option.map_some, Option.some.injEq, Prod.mk.injEq] at e
    obtain ⟨rfl, rfl, rfl⟩ := e
    intro _
    have hn' := newB_ok hn
    obtain ⟨σ', h2, h3, h4, h5⟩ := alloc_ok hr hn' (.map k (.u .asm .nil) []) (.map #[] 0) (by
      intro ρ₁ σ₁ he hid
      refine ⟨by rw [hid]; exact hr.now.size, by rw [hid], #[], 0, by rw [hid]; exact heap_alloc_new w _, [], ?_⟩
      exact ⟨rfl, by simp, by simp, by simp, by simp, fun s _ => rfl, by simp⟩)
    refine ⟨ρ, σ', .value (.map (some w.heap.size)), _, ?_, h2, h4, h5, ?_⟩
    · rw [hop]
      simp [Instr.makeMap]
    · intro ρ₁ σ₁ he
      simp only [isNx, SV.val]
      rw [he.b id hn'.al, h3]

/-- so many elements, all zero. -/
def zerosS (z : List SV) (n : Nat) : List SV := (List.range (n * z.length)).map fun i => z.getD (i % z.length) .nilp
def mBuildSlice (tt : Nat → Option Ty) (h : H) (d : Option Nat) (t n : Nat) (ps : List (Nat × SV)) : MR :=
  (tt t).bind fun ty => match ty.ul with
    | .slice e => (tt e).bind fun ety => ety.zero.bind fun z =>
      bif Nat.ble (n * ety.size) 16777216 && Nat.beq z.cells.length ety.size && Nat.blt 0 ety.size then
        (fillS (fun i => some (i * ety.size, ety.size)) (zerosS z.cells n) ps).bind fun l => (newCells h d l e).map fun p =>
          ([], some (.slice p.1 0 (.n 0) ety.size (.n n) (.n n)), p.2)
      else none
    | _ => none
theorem zeros_ok (ρ : Env) (σ : Pl) (z : List SV) (n : Nat) (hz : 0 < z.length) :
    ((Array.range (n * z.length)).map ((z.map (SV.val ρ σ)).toArray[· % (z.map (SV.val ρ σ)).toArray.size]!)) = ((zerosS z n).map (SV.val ρ σ)).toArray := by
  apply Array.ext'
  simp only [zerosS, Array.toList_map, Array.toList_range, List.map_map]
  apply List.map_congr_left
  intro i _
  simp only [Function.comp, List.size_toArray, List.length_map]
  have hlt : i % z.length < z.length := Nat.mod_lt _ hz
  rw [getElem!_pos _ _ (by simpa using hlt)]
  simp [List.getD_eq_getElem?_getD, hlt]
theorem mBuildSlice_ok {tt : Nat → Option Ty} (ht : TabOk P tt) {h h' : H} {d : Option Nat} {t n : Nat} {ps : List (Nat × SV)} {sv : Option SV} {g : List X} (e : mBuildSlice tt h d t n ps = some (g, sv, h'))
    {o : Oper} {w0 : W0} {B : Nat} {ρ : Env} {σ : Pl} {a : Act} {w : World} (hr : HRep w0 B ρ σ h w) (fps : List (Nat × Value))
    (hop : execOp a.eval o = (do pure (.value (← Instr.buildSlice t n fps.toArray)))) (hx : ∀ ρ₁ σ₁, Ext h ρ ρ₁ σ σ₁ → fps = ps.map fun q => (q.1, q.2.val ρ₁ σ₁)) : OpOk P o h g sv h' w0 B ρ σ a w := by
  unfold mBuildSlice at e
  obtain ⟨ty, hty, e⟩ := bind1 e
  have hu := (ht t ty hty).ul
  split at e
  case h_2 => cases e
  rename_i el hul
  rw [hul] at hu
  simp only [ULOk] at hu
  obtain ⟨ety, hety, e⟩ := bind1 e
  obtain ⟨z, hz, e⟩ := bind1 e
  cases hc0 : (Nat.ble (n * ety.size) 16777216 && Nat.beq z.cells.length ety.size && Nat.blt 0 ety.size) with
  | false => simp [hc0] at e
  | true =>
    simp only [hc0, cond_true] at e
    simp only [Bool.and_eq_true, Nat.ble_eq, beq_true, Nat.blt_eq] at hc0
    obtain ⟨⟨c1, c2⟩, c3⟩ := hc0
    obtain ⟨l, hl, e⟩ := bind1 e
    cases hc : newCells h d l el with
    | none => simp [hc] at e
    | some p =>
      obtain ⟨id, h1⟩ := p
      simp only [hc, Option.map_some, Option.some.injEq, Prod.mk.injEq] at e
      obtain ⟨rfl, rfl, rfl⟩ := e
      intro _
      have hzz : ∀ ρ₁ σ₁, z.val ρ₁ σ₁ = z.val ρ σ := by
        intro ρ₁ σ₁
        obtain ⟨i, _, _, _, h3⟩ := (ht el ety hety).info
        have a1 := h3 z hz ρ₁ σ₁
        have a2 := h3 z hz ρ σ
        rw [a1] at a2
        exact Option.some.inj a2
      have hcz : ∀ ρ₁ σ₁, (z.cells.map (SV.val ρ₁ σ₁)) = (z.cells.map (SV.val ρ σ)) := by
        intro ρ₁ σ₁
        have a1 := SV.cells_val ρ₁ σ₁ z
        have a2 := SV.cells_val ρ σ z
        rw [hzz ρ₁ σ₁, a2] at a1
        simpa using a1.symm
      have key : ∀ ρ₁ σ₁, Ext h ρ ρ₁ σ σ₁ → Instr.fill (fun i => some (i * ety.size, ety.size)) ((zerosS z.cells n).map (SV.val ρ σ)).toArray fps = some (l.map (SV.val ρ₁ σ₁)).toArray := by
        intro ρ₁ σ₁ he
        have := fillS_ok (fun i => some (i * ety.size, ety.size)) ρ₁ σ₁ ps (zerosS z.cells n) l hl
        rw [← hx ρ₁ σ₁ he] at this
        rw [← this]
        congr 1
        rw [← zeros_ok ρ σ z.cells n (by omega), ← zeros_ok ρ₁ σ₁ z.cells n (by omega), hcz ρ₁ σ₁]
      obtain ⟨σ', h2, h3, h4, h5, h6⟩ := newCells_ok hc hr (l.map (SV.val ρ σ)) (by
        intro ρ₁ σ₁ he
        have a1 := key ρ₁ σ₁ he
        have a2 := key ρ σ (Ext.refl _ _ _)
        rw [a2] at a1
        simpa using (Option.some.inj a1).symm)
      refine ⟨ρ, σ', .value (.slice (some ⟨w.heap.size, 0, none⟩) n n), _, ?_, h2, h4, h5, ?_⟩
      · rw [hop]
        have hzc := SV.cells_val ρ σ z
        have hz0 := zeros_ok ρ σ z.cells n (by omega)
        rw [c2] at hz0
        have hkey := key ρ σ (Ext.refl _ _ _)
        simp only [Instr.buildSlice, Sem.run_bind, run_underlying hu, Result.andThen_ok, run_size_ok (ht el ety hety)]
        rw [if_neg (by omega)]
        by_cases hn0 : n * ety.size = 0
        · have hzs : zerosS z.cells n = [] := by simp [zerosS, c2, hn0]
          rw [hzs] at hkey
          simp only [List.map_nil] at hkey
          have hr0 : ∀ f : Nat → Value, (Array.range 0).map f = #[] := fun f => by apply Array.ext'; simp
          simp only [hn0, if_true, Sem.run_bind, Sem.run_pure, Result.andThen_ok, hr0, hkey, newRow, run_newObj, World.alloc_eq]
        · simp only [hn0, if_false, Sem.run_bind, Sem.run_pure, Result.andThen_ok, run_zero_ok (ht el ety hety) hz ρ σ w, hzc, hz0, hkey, newRow, run_newObj, World.alloc_eq]
      · intro ρ₁ σ₁ he
        simp only [isNx, SV.val]
        rw [show adr σ₁ id (X.nat ρ₁ (.n 0) * ety.size + 0) = ⟨w.heap.size, 0, none⟩ by simp [adr, he.b id h6, h3, X.nat, X.den]]
        simp [X.nat, X.den]

/-- 'make' of a row of so many elements (written out). -/
def mMakeSlice (tt : Nat → Option Ty) (h : H) (d : Option Nat) (t : Nat) : SV → SV → MR
  | .int _ (.n l), .int _ (.n c) => (tt t).bind fun ty => match ty.ul with
    | .slice e => (tt e).bind fun ety => ety.zero.bind fun z =>
      bif ile 0 l && (ile l c && (ile c 1000000 && (Nat.ble (ety.bytes * c.toNat) 1000000000 && (Nat.beq z.cells.length ety.size && Nat.blt 0 ety.size)))) then
        (newCells h d (zerosS z.cells c.toNat) e).map fun p => ([], some (.slice p.1 0 (.n 0) ety.size (.n l) (.n c)), p.2)
      else none
    | _ => none
  | _, _ => none
theorem mMakeSlice_ok {tt : Nat → Option Ty} (ht : TabOk P tt) {h h' : H} {d : Option Nat} {t : Nat} {x y : SV} {sv : Option SV} {g : List X} (e : mMakeSlice tt h d t x y = some (g, sv, h'))
    {o : Oper} {w0 : W0} {B : Nat} {ρ : Env} {σ : Pl} {a : Act} {w : World} (hr : HRep w0 B ρ σ h w) (fx fy : Value)
    (hop : execOp a.eval o = (do pure (.value (← Instr.makeSlice t fx fy)))) (hx : ∀ ρ₁ σ₁, Ext h ρ ρ₁ σ σ₁ → fx = x.val ρ₁ σ₁ ∧ fy = y.val ρ₁ σ₁) : OpOk P o h g sv h' w0 B ρ σ a w := by
  unfold mMakeSlice at e
  split at e
  case h_2 => cases e
  rename_i kl l kc c
  obtain ⟨ty, hty, e⟩ := bind1 e
  have hu := (ht t ty hty).ul
  split at e
  case h_2 => cases e
  rename_i el hul
  rw [hul] at hu
  simp only [ULOk] at hu
  obtain ⟨ety, hety, e⟩ := bind1 e
  obtain ⟨z, hz, e⟩ := bind1 e
  cases hc0 : (ile 0 l && (ile l c && (ile c 1000000 && (Nat.ble (ety.bytes * c.toNat) 1000000000 && (Nat.beq z.cells.length ety.size && Nat.blt 0 ety.size))))) with
  | false => simp [hc0] at e
  | true =>
    simp only [hc0, cond_true] at e
    simp only [Bool.and_eq_true, Nat.ble_eq, beq_true, Nat.blt_eq, ile_iff] at hc0
    obtain ⟨c1, c2, c3, c4, c5, c6⟩ := hc0
    cases hc : newCells h d (zerosS z.cells c.toNat) el with
    | none => simp [hc] at e
    | some p =>
      obtain ⟨id, h1⟩ := p
      simp only [hc, Option.map_some, Option.some.injEq, Prod.mk.injEq] at e
      obtain ⟨rfl, rfl, rfl⟩ := e
      intro _
      obtain ⟨hfx, hfy⟩ := hx ρ σ (Ext.refl _ _ _)
      simp only [SV.val, X.den, asI_i] at hfx hfy
      subst hfx hfy
      have hzz : ∀ ρ₁ σ₁, z.val ρ₁ σ₁ = z.val ρ σ := by
        intro ρ₁ σ₁
        obtain ⟨i, _, _, _, h3⟩ := (ht el ety hety).info
        have a1 := h3 z hz ρ₁ σ₁
        have a2 := h3 z hz ρ σ
        rw [a1] at a2
        exact Option.some.inj a2
      have hcz : ∀ ρ₁ σ₁, (z.cells.map (SV.val ρ₁ σ₁)) = (z.cells.map (SV.val ρ σ)) := by
        intro ρ₁ σ₁
        have a1 := SV.cells_val ρ₁ σ₁ z
        have a2 := SV.cells_val ρ σ z
        rw [hzz ρ₁ σ₁, a2] at a1
        simpa using a1.symm
      obtain ⟨σ', h2, h3, h4, h5, h6⟩ := newCells_ok hc hr ((zerosS z.cells c.toNat).map (SV.val ρ σ)) (by
        intro ρ₁ σ₁ he
        have a1 := zeros_ok ρ₁ σ₁ z.cells c.toNat (by omega)
        have a2 := zeros_ok ρ σ z.cells c.toNat (by omega)
        rw [hcz ρ₁ σ₁, a2] at a1
        simpa using a1.symm)
      obtain ⟨i, hi, hsize, hbytes, hzero⟩ := (ht el ety hety).info
      have hzs : (z.val ρ σ).cells = ((z.cells.map (SV.val ρ σ))).toArray := SV.cells_val ρ σ z
      refine ⟨ρ, σ', .value (.slice (some ⟨w.heap.size, 0, none⟩) l.toNat c.toNat), _, ?_, h2, h4, h5, ?_⟩
      · have hb : (i.bytes : Int) * c ≤ 281474976710656 := by
          have : (i.bytes : Int) * c = ((ety.bytes * c.toNat : Nat) : Int) := by
            rw [hbytes, Int.natCast_mul, Int.toNat_of_nonneg (by omega)]
          omega
        have hrun := run_make (P := P) w t el i (z.val ρ σ) hu hi (hzero z hz ρ σ) kl kc l c c1 c2 hb (by omega)
        rw [hop]
        have hm : madeCells (z.val ρ σ).cells (c.toNat * i.size) = ((zerosS z.cells c.toNat).map (SV.val ρ σ)).toArray := by
          rw [← zeros_ok ρ σ z.cells c.toNat (by omega), hzs, hsize, ← c5]; rfl
        rw [hm] at hrun
        simp only [Sem.run_bind, hrun, Result.andThen_ok, Sem.run_pure]
      · intro ρ₁ σ₁ he
        simp only [isNx, SV.val]
        rw [show adr σ₁ id (X.nat ρ₁ (.n 0) * ety.size + 0) = ⟨w.heap.size, 0, none⟩ by simp [adr, he.b id h6, h3, X.nat, X.den]]
        simp [X.nat, X.den]
end Go.SE
end
