import Derived.Test.YtkphkjffcpkhjaaDoorSe13
/-! The symbolic executor: entries of maps, one after the other. -/
noncomputable section
set_option linter.unusedSimpArgs false
set_option linter.unusedVariables false
namespace Go.SE
open Go.RowKit (Below)
variable {P : Program}

/-- in the order of the second. -/
def insSt (q : List Nat × Nat) : List (List Nat × Nat) → List (List Nat × Nat)
  | [] => [q]
  | p :: l => bif Nat.blt p.2 q.2 then q :: p :: l else p :: insSt q l
theorem mem_insSt {q p : List Nat × Nat} : ∀ {l : List (List Nat × Nat)}, p ∈ insSt q l → p = q ∨ p ∈ l
  | [], h => by simp [insSt] at h; exact .inl h
  | x :: l, h => by
    simp only [insSt] at h
    cases hb : Nat.blt x.2 q.2 with
    | true => simp only [hb, cond_true, List.mem_cons] at h; rcases h with h | h | h <;> simp [h]
    | false =>
      simp only [hb, cond_false, List.mem_cons] at h
      rcases h with h | h
      · simp [h]
      · rcases mem_insSt h with h | h <;> simp [h]
def getSt (v : Nat) : List (List Nat × Nat) → Option (List Nat)
  | [] => none
  | p :: l => bif Nat.beq p.2 v then some p.1 else getSt v l
theorem getSt_mem {v : Nat} {q : List Nat} : ∀ {l : List (List Nat × Nat)}, getSt v l = some q → (q, v) ∈ l
  | [], h => by cases h
  | p :: l, h => by
    simp only [getSt] at h
    cases hb : Nat.beq p.2 v with
    | true =>
      simp only [hb, cond_true, Option.some.injEq] at h
      have := beq_true.1 hb
      subst this; subst h
      exact List.mem_cons_self
    | false =>
      simp only [hb, cond_false] at h
      exact List.mem_cons_of_mem _ (getSt_mem h)

def mEntry (tt : Nat → Option Ty) (h : H) (d : Option Nat) (t : Nat) : SV → SV → MR
  | .map b, .str (.s q) => (mapTy tt t).bind fun k => match fget h.hp b with
    | some (.map k' m st) => (newV h d).bind fun p => bif decide (k = k') then
      some ([], some (.tuple [.int k (mMget m (.s q)), .int .i64 (.v p.1)]), { p.2 with hp := fset b (.map k m (insSt (q, p.1) st)) p.2.hp }) else none
    | _ => none
  | _, _ => none
def mEntryStore (h : H) : SV → SV → SV → MR
  | .map b, .int .i64 (.v i), .int kv v => match fget h.hp b with
    | some (.map k m st) => (getSt i st).bind fun q => bif decide (k = kv) then some ([], none, { h with hp := fset b (.map k (mMset m (.s q) v) st) h.hp }) else none
    | _ => none
  | _, _, _ => none

theorem st_of {ρ : Env} {st : List (List Nat × Nat)} {L : List (ByteArray × Int × Nat)} {q : List Nat} {i : Nat} {e : ByteArray × Int × Nat}
    (h : ∀ p ∈ st, ∃ e ∈ L, e.1 = bytesOf p.1 ∧ (ρ.v p.2).asI = e.2.2) (he : e ∈ L) (h1 : e.1 = bytesOf q) (h2 : (ρ.v i).asI = e.2.2) :
    ∀ p ∈ insSt (q, i) st, ∃ e ∈ L, e.1 = bytesOf p.1 ∧ (ρ.v p.2).asI = e.2.2 := by
  intro p hp
  rcases mem_insSt hp with rfl | hp
  · exact ⟨e, he, h1, h2⟩
  · exact h p hp

/-- What mapEntry does, as a function of what lies there. -/
theorem run_mapEntry {t kt vt : TypeId} (h1 : P.underlying t = some (.map kt vt)) (h2 : P.underlying kt = some .string) {k : IntKind} (h3 : ∀ w, (zeroValue vt).run P w = .ok (.int k 0) w)
    {g : Nat} {w : World} {es : Array MapEntry} {ck : Nat} (hw : w.heap[g]? = some (.map es ck)) {L : List (ByteArray × Int × Nat)} (hes : es.toList = L.map (enc k)) (s : ByteArray) :
    (Instr.mapEntry t (.map (some g)) (.string s)).run P w =
      match lkp L s 0 with
      | none => .ok (.tuple #[.int k 0, .int .i64 ck]) { w with heap := w.heap.setIfInBounds g (.map (es.push (enc k (s, 0, ck))) (ck + 1)) }
      | some p => .ok (.tuple #[.int k p.2.2.1, .int .i64 p.2.2.2]) { w with heap := w.heap.setIfInBounds g (.map es ck) } := by
  have hck : (Instr.checkKey false 10000 kt (.string s)).run P w = .ok () w := run_checkKey_string _ 9999 kt _ h2 w
  have hfk := run_findKey_string (P := P) kt s h2 w k L
  rw [← hes] at hfk
  cases hl : lkp L s 0 with
  | none =>
    rw [hl] at hfk
    simp only [Instr.mapEntry, Sem.run_bind, run_underlying h1, Result.andThen_ok, run_getObj_map hw, hck, hfk, Option.map_none, h3, run_setObj_map hw, Sem.run_pure, enc, goInt]
  | some p =>
    obtain ⟨j, en⟩ := p
    rw [hl] at hfk
    obtain ⟨m', hj, hm, hen⟩ := lkp_some hl
    obtain rfl : m' = j := by omega
    have hel : es[m']? = some (enc k en) := by rw [← Array.getElem?_toList, hes]; simp [hm]
    have hstays : (Instr.keyThatStays (.string s) (.string s)).run P w = .ok (.string s) w := by
      have : Instr.sameBits (9999 + 1) (.string s) (.string s) = true := by simp [Instr.sameBits, beq_bytes]
      unfold Instr.keyThatStays
      rw [if_pos this]; rfl
    have hsame : (es.modify m' fun e => { e with key := .string s }) = es := by
      apply Array.ext'
      have := modify_enc k es L hes m' (fun e => { e with key := .string s }) id (by
        intro e he; rw [hm] at he; cases he; simp [enc, hen])
      rw [this, hes]
      congr 1
      apply List.ext_getElem?
      intro i
      rw [List.getElem?_modify]
      by_cases e : m' = i <;> simp [e]
    simp only [Instr.mapEntry, Sem.run_bind, run_underlying h1, Result.andThen_ok, run_getObj_map hw, hck, hfk, Option.map_some, hel, Option.getD_some, enc, hen, hstays, hsame, run_setObj_map hw, Sem.run_pure, goInt]

theorem enc_inj {k : IntKind} {L L' : List (ByteArray × Int × Nat)} (h : L.map (enc k) = L'.map (enc k)) : L = L' := by
  refine (List.map_inj_right ?_).1 h
  rintro ⟨a, b, c⟩ ⟨a', b', c'⟩ e
  simp only [enc, MapEntry.mk.injEq, Value.string.injEq, Value.int.injEq, true_and] at e
  obtain ⟨rfl, rfl, rfl⟩ := e
  rfl

theorem mEntry_ok {tt : Nat → Option Ty} (ht : TabOk P tt) {h h' : H} {d : Option Nat} {t : Nat} {x q : SV} {sv : Option SV} {g : List X} (e : mEntry tt h d t x q = some (g, sv, h'))
    {o : Oper} {w0 : W0} {B : Nat} {ρ : Env} {σ : Pl} {a : Act} {w : World} (hr : HRep w0 B ρ σ h w)
    (fx fq : Value) (hop : execOp a.eval o = (do pure (.value (← Instr.mapEntry t fx fq)))) (hx : ∀ ρ₁ σ₁, Ext h ρ ρ₁ σ σ₁ → fx = x.val ρ₁ σ₁ ∧ fq = q.val ρ₁ σ₁) : OpOk P o h g sv h' w0 B ρ σ a w := by
  unfold mEntry at e
  split at e
  case h_2 => cases e
  rename_i b q
  obtain ⟨k, hk, e⟩ := bind1 e
  obtain ⟨kt, vt, h1, h2, h3⟩ := mapTy_ok ht hk
  split at e
  case h_2 => cases e
  rename_i k' m st hb
  obtain ⟨⟨id, h1'⟩, hv, e⟩ := bind1 e
  cases hc : decide (k = k') with
  | false => simp [hc] at e
  | true =>
    simp only [hc, cond_true, Option.some.injEq, Prod.mk.injEq] at e
    obtain ⟨rfl, rfl, rfl⟩ := e
    have hc' : k = k' := by simpa using hc
    subst hc'
    have hn := newV_ok hv
    intro _
    obtain ⟨hfx, hfq⟩ := hx ρ σ (Ext.refl _ _ _)
    simp only [SV.val, X.den, asS_s] at hfx hfq
    subst hfx hfq
    obtain ⟨hB, h0, es, ck, hw, L, hL⟩ := hr.now.blk b _ hb
    have hrun := run_mapEntry h1 h2 h3 hw hL.es (bytesOf q)
    have hlt := (Array.getElem?_eq_some_iff.1 hw).1
    have hset : ∀ o : Obj, ({ w with heap := w.heap.setIfInBounds (σ b).1 o } : World).heap[(σ b).1]? = some o := fun o => by simp [hlt]
    have main : ∀ (stamp val0 : Int) (es' : Array MapEntry) (ck' : Nat) (L' : List (ByteArray × Int × Nat)),
        (Instr.mapEntry t (.map (some (σ b).1)) (.string (bytesOf q))).run P w = .ok (.tuple #[.int k val0, .int .i64 stamp]) { w with heap := w.heap.setIfInBounds (σ b).1 (.map es' ck') } →
        (∀ ρ₁ f, MapRep ρ₁ k es ck f st L → (ρ₁.v id).asI = stamp → val0 = f (keyS (bytesOf q)) ∧ MapRep ρ₁ k es' ck' f (insSt (q, id) st) L') →
        ∃ ρ' σ' nx w', (execOp a.eval o).run P w = .ok nx w' ∧ Ext h ρ ρ' σ σ' ∧ h.le { h1' with hp := fset b (.map k m (insSt (q, id) st)) h1'.hp } ∧
          HRep w0 B ρ' σ' { h1' with hp := fset b (.map k m (insSt (q, id) st)) h1'.hp } w' ∧
          ∀ ρ₁ σ₁, Ext { h1' with hp := fset b (.map k m (insSt (q, id) st)) h1'.hp } ρ' ρ₁ σ' σ₁ → isNx ρ₁ σ₁ (some (.tuple [.int k (mMget m (.s q)), .int .i64 (.v id)])) nx := by
      intro stamp val0 es' ck' L' hr1 hrep
      have hin : ∀ ρ₁ σ₁, Ext { h1' with hp := fset b (.map k m (insSt (q, id) st)) h1'.hp } (setV ρ id (.i stamp)) ρ₁ σ σ₁ →
          HOk w0 B ρ₁ σ₁ h w ∧ (ρ₁.v id).asI = stamp ∧ (σ₁ b).1 = (σ b).1 ∧ BlkOk B ρ₁ σ₁ w b (.map k m st) := by
        intro ρ₁ σ₁ he
        have he' : Ext h ρ ρ₁ σ σ₁ := (ext_setV hn ρ σ (.i stamp)).trans (h' := h1') ⟨he.f, he.p, fun i hi => he.v i hi, fun i hi => he.b i hi⟩ hn.le.v hn.le.b
        have hok := hr _ _ he'
        refine ⟨hok, ?_, ?_, hok.blk b _ hb⟩
        · rw [he.v id hn.al]; simp [setV]
        · have := (hx ρ₁ σ₁ he').1
          simp only [SV.val, Value.map.injEq, Option.some.injEq] at this
          exact this.symm
      refine ⟨setV ρ id (.i stamp), σ, .value (.tuple #[.int k val0, .int .i64 stamp]), { w with heap := w.heap.setIfInBounds (σ b).1 (.map es' ck') }, ?_, ext_setV hn ρ σ _, ⟨hn.le.v, hn.le.b⟩, ?_, ?_⟩
      · rw [hop]
        simp only [Sem.run_bind, hr1, Result.andThen_ok, Sem.run_pure]
      · intro ρ₁ σ₁ he
        obtain ⟨hok, hst, hsame, hB1, h01, es1, ck1, hw1, L1, hL1⟩ := hin ρ₁ σ₁ he
        rw [hsame] at hw1
        rw [hw] at hw1
        cases hw1
        have hLL : L1 = L := enc_inj (hL1.es.symm.trans hL.es)
        subst hLL
        have := setObj_change hok hb rfl (.map es' ck') (h1 := h1') (k' := .map k m (insSt (q, id) st)) hn.hp hn.fs
          ⟨hB1, h01, es', ck', by rw [hsame]; exact hset _, L', (hrep ρ₁ _ hL1 hst).2⟩
        rw [hsame] at this
        exact this
      · intro ρ₁ σ₁ he
        obtain ⟨hok, hst, hsame, hB1, h01, es1, ck1, hw1, L1, hL1⟩ := hin ρ₁ σ₁ he
        rw [hsame] at hw1
        rw [hw] at hw1
        cases hw1
        have hLL : L1 = L := enc_inj (hL1.es.symm.trans hL.es)
        subst hLL
        have := (hrep ρ₁ _ hL1 hst).1
        simp only [isNx, SV.val, SV.val.vals, mMget_den, X.den, asS_s, this, hst]
    cases hl : lkp L (bytesOf q) 0 with
    | none =>
      rw [hl] at hrun
      refine main ck 0 _ _ (L ++ [(bytesOf q, 0, ck)]) hrun ?_
      intro ρ₁ f hM hid
      have hnone := lkp_none hl
      have hf0 : f (keyS (bytesOf q)) = 0 := hM.not _ hnone
      refine ⟨hf0.symm, ?_⟩
      have hp := hM.push hnone 0
      have hff : (fun z => if z = keyS (bytesOf q) then 0 else f z) = f := by
        funext z; by_cases hz : z = keyS (bytesOf q) <;> simp [hz, hf0]
      rw [hff] at hp
      exact { hp with st := st_of hp.st (e := (bytesOf q, 0, ck)) (by simp) rfl hid }
    | some p =>
      obtain ⟨j, en⟩ := p
      rw [hl] at hrun
      obtain ⟨m', hj, hm, hen⟩ := lkp_some hl
      refine main en.2.2 en.2.1 _ _ L hrun ?_
      intro ρ₁ f hM hid
      have hmem := List.mem_of_getElem? hm
      refine ⟨?_, { hM with st := st_of hM.st hmem hen hid }⟩
      rw [← hen]; exact (hM.has en hmem).symm

theorem mEntryStore_ok {h h' : H} {t : Nat} {x q v : SV} {sv : Option SV} {g : List X} (e : mEntryStore h x q v = some (g, sv, h'))
    {w0 : W0} {B : Nat} {ρ : Env} {σ : Pl} {w : World} (hr : HOk w0 B ρ σ h w) :
    sv = none ∧ ∃ w', (Instr.entryStore t (x.val ρ σ) (q.val ρ σ) (v.val ρ σ)).run P w = .ok () w' ∧ HOk w0 B ρ σ h' w' := by
  unfold mEntryStore at e
  split at e
  case h_2 => cases e
  rename_i b i kv v
  split at e
  case h_2 => cases e
  rename_i k m st hb
  obtain ⟨q, hq, e⟩ := bind1 e
  cases hc : decide (k = kv) with
  | false => simp [hc] at e
  | true =>
    simp only [hc, cond_true, Option.some.injEq, Prod.mk.injEq] at e
    obtain ⟨rfl, rfl, rfl⟩ := e
    have hc' : k = kv := by simpa using hc
    subst hc'
    refine ⟨rfl, ?_⟩
    obtain ⟨hB, h0, es, ck, hw, L, hL⟩ := hr.blk b _ hb
    have hlt := (Array.getElem?_eq_some_iff.1 hw).1
    have hset : ∀ o : Obj, ({ w with heap := w.heap.setIfInBounds (σ b).1 o } : World).heap[(σ b).1]? = some o := fun o => by simp [hlt]
    obtain ⟨en, hen, hk1, hk2⟩ := hL.st (q, i) (getSt_mem hq)
    obtain ⟨j, hj⟩ := List.getElem?_of_mem hen
    have hjl := (List.getElem?_eq_some_iff.1 hj)
    have hfind : es.findIdx? (fun e => (e.born : Int) == (ρ.v i).asI) = some j := by
      rw [← Array.toArray_toList (xs := es), List.findIdx?_toArray, hL.es, List.findIdx?_map, List.findIdx?_eq_some_iff_getElem]
      refine ⟨hjl.1, ?_, ?_⟩
      · simp only [Function.comp, enc, hjl.2, hk2]; simp
      · intro j' hj' hp
        simp only [Function.comp, enc, hk2, beq_iff_eq] at hp
        have hp' : (L[j']'(Nat.lt_trans hj' hjl.1)).2.2 = en.2.2 := by exact_mod_cast hp
        have : j' = j := nodup_inj hL.borns (i := j') (j := j) (by simpa using Nat.lt_trans hj' hjl.1) (by simpa using hjl.1) (by simp only [List.getElem_map]; rw [hp', hjl.2])
        omega
    have hes : (es.modify j fun e => { e with val := .int k (v.den ρ).asI }).toList = (L.modify j fun x => (x.1, (v.den ρ).asI, x.2.2)).map (enc k) := by
      apply modify_enc k es L hL.es
      intro e he
      rfl
    refine ⟨{ w with heap := w.heap.setIfInBounds (σ b).1 (.map (es.modify j fun e => { e with val := .int k (v.den ρ).asI }) ck) }, ?_, setObj_change hr hb rfl _ rfl rfl ?_⟩
    · simp only [Instr.entryStore, SV.val, Sem.run_bind, run_getObj_map hw, Result.andThen_ok, asInt, asIntOf, Sem.run_pure, X.den, hfind, run_setObj_map hw]
    · refine ⟨hB, h0, _, _, hset _, ?_⟩
      have := hL.turn hj (v.den ρ).asI _ hes
      rw [mMset_den]
      simp only [X.den, asS_s]
      rw [hk1] at this
      exact ⟨_, this⟩
end Go.SE
end
