import Derived.Test.YtkphkjffcpkhjaaDoorSe12
/-! The symbolic executor: look-ups and stores of maps. -/
noncomputable section
set_option linter.unusedSimpArgs false
set_option linter.unusedVariables false
namespace Go.SE
open Go.RowKit (Below)
variable {P : Program}

def ltL : List Nat → List Nat → Bool
  | _, [] => false
  | [], _ :: _ => true
  | a :: x, b :: y => bif Nat.blt a b then true else bif Nat.beq a b then ltL x y else false
theorem ltL_irrefl : ∀ (a : List Nat), ltL a a = false
  | [] => rfl
  | a :: x => by
    have : Nat.blt a a = false := by
      cases h : Nat.blt a a with
      | false => rfl
      | true => simp [Nat.blt] at h; omega
    simp [ltL, this, ltL_irrefl x]
theorem bytesOf_inj {a b : List Nat} (ha : small a = true) (hb : small b = true) (h : bytesOf a = bytesOf b) : a = b := by
  have := eqs_lit ha hb
  rw [h] at this
  exact (beqL_iff a b).1 (by rw [← this]; simp)

def mMget : X → X → X
  | .c .mset m (.s k) v, .s q => bif small k && small q then (bif beqL k q then v else mMget m (.s q)) else .o .mget (.c .mset m (.s k) v) (.s q)
  | .u .asm .nil, _ => .n 0
  | m, q => .o .mget m q
theorem mMget_den (ρ : Env) : ∀ (m q : X), ((mMget m q).den ρ).asI = (m.den ρ).asM (keyS (q.den ρ).asS)
  | m, q => by
    unfold mMget
    split
    · rename_i m' k v q'
      cases hs : (small k && small q') with
      | false => simp [X.den, O2.den]
      | true =>
        simp only [Bool.and_eq_true] at hs
        simp only [cond_true]
        cases hb : beqL k q' with
        | true =>
          have := (beqL_iff _ _).1 hb
          subst this
          simp [X.den, O3.den]
        | false =>
          have hne : q' ≠ k := fun e => by rw [(beqL_iff _ _).2 e.symm] at hb; cases hb
          have h2 : ¬ keyS (bytesOf q') = keyS (bytesOf k) := fun e => hne (bytesOf_inj hs.2 hs.1 (keyS_inj e))
          have ih := mMget_den ρ m' (.s q')
          simp only [cond_false, ih, X.den, O3.den, asS_s, asM_m, h2, if_false]
    · simp [X.den, O1.den, U.asM]
    · simp [X.den, O2.den]

def mMset : X → X → X → X
  | .c .mset m (.s k) v, .s q, u => bif small k && small q then
      (bif beqL k q then .c .mset m (.s q) u else bif ltL q k then .c .mset (mMset m (.s q) u) (.s k) v else .c .mset (.c .mset m (.s k) v) (.s q) u)
      else .c .mset (.c .mset m (.s k) v) (.s q) u
  | m, q, u => .c .mset m q u
theorem mMset_den (ρ : Env) : ∀ (m q u : X), ((mMset m q u).den ρ).asM = fun z => if z = keyS (q.den ρ).asS then (u.den ρ).asI else (m.den ρ).asM z
  | m, q, u => by
    unfold mMset
    split
    · rename_i m' k v q'
      cases hs : (small k && small q') with
      | false => simp [X.den, O3.den]
      | true =>
        simp only [Bool.and_eq_true] at hs
        simp only [cond_true]
        cases hb : beqL k q' with
        | true =>
          have := (beqL_iff _ _).1 hb
          subst this
          funext z
          simp only [cond_true, X.den, O3.den, asS_s, asM_m]
          by_cases hz : z = keyS (bytesOf k) <;> simp [hz]
        | false =>
          simp only [cond_false]
          cases hl : ltL q' k with
          | false => simp [X.den, O3.den]
          | true =>
            have hne : q' ≠ k := fun e => by rw [(beqL_iff _ _).2 e.symm] at hb; cases hb
            have h2 : ¬ keyS (bytesOf q') = keyS (bytesOf k) := fun e => hne (bytesOf_inj hs.2 hs.1 (keyS_inj e))
            have ih := mMset_den ρ m' (.s q') u
            funext z
            simp only [cond_true, X.den, O3.den, asS_s, asM_m] at ih ⊢
            rw [ih]
            by_cases hz : z = keyS (bytesOf q')
            · subst hz; simp [h2]
            · have h3 : ¬ keyS (bytesOf k) = keyS (bytesOf q') := fun e => h2 e.symm
              by_cases hz2 : z = keyS (bytesOf k)
              · subst hz2; simp [h3]
              · simp [hz, hz2]
    · simp [X.den, O3.den]

/-- the kinds of a map from strings to whole numbers. -/
def mapTy (tt : Nat → Option Ty) (t : Nat) : Option IntKind :=
  (tt t).bind fun ty => match ty.ul with
    | .map kt vt => (tt kt).bind fun kty => (tt vt).bind fun vty => match kty.ul, vty.ul, vty.zero with
      | .str, .int k, some (.int k' (.n z)) => bif decide (k = k') && decide (z = 0) then some k else none
      | _, _, _ => none
    | _ => none
theorem mapTy_ok {tt : Nat → Option Ty} (ht : TabOk P tt) {t : Nat} {k : IntKind} (h : mapTy tt t = some k) :
    ∃ kt vt, P.underlying t = some (.map kt vt) ∧ P.underlying kt = some .string ∧ ∀ w, (zeroValue vt).run P w = .ok (.int k 0) w := by
  unfold mapTy at h
  obtain ⟨ty, hty, h⟩ := bind1 h
  have hu := (ht t ty hty).ul
  split at h
  · rename_i kt vt hul
    rw [hul] at hu
    obtain ⟨kty, hkty, h⟩ := bind1 h
    obtain ⟨vty, hvty, h⟩ := bind1 h
    have hk := (ht kt kty hkty).ul
    split at h
    · rename_i k1 k2 z h1 h2 h3
      cases hc : (decide (k1 = k2) && decide (z = 0)) with
      | false => simp [hc] at h
      | true =>
        simp only [hc, cond_true, Option.some.injEq] at h
        subst h
        simp only [Bool.and_eq_true, decide_eq_true_eq] at hc
        obtain ⟨rfl, rfl⟩ := hc
        rw [h1] at hk
        exact ⟨kt, vt, hu, hk, fun w => run_zero_ok (ht vt vty hvty) h3 ⟨fun _ => .i 0, fun _ _ => .i 0, fun _ _ => True⟩ (fun _ => (0, 0)) w⟩
    · cases h
  · cases h

theorem run_checkKey_string (e : Bool) (n : Nat) (kt : TypeId) (s : ByteArray) (h : P.underlying kt = some .string) (w : World) : (Instr.checkKey e (n + 1) kt (.string s)).run P w = .ok () w := by
  simp only [Instr.checkKey, Sem.run_bind, run_underlying h, Result.andThen_ok, Sem.run_pure]
theorem run_findKey_string (kt : TypeId) (s : ByteArray) (h : P.underlying kt = some .string) (w : World) (k : IntKind) (L : List (ByteArray × Int × Nat)) :
    (Instr.findKey kt (.string s) (L.map (enc k))).run P w = .ok ((lkp L s 0).map fun q => (q.1, .int k q.2.2.1)) w := by
  simp only [Instr.findKey, Sem.run_bind, run_underlying h, Result.andThen_ok, findNow_enc, Sem.run_pure]
theorem run_getObj_map {g : Nat} {w : World} {es : Array MapEntry} {ck : Nat} (h : w.heap[g]? = some (.map es ck)) : (getObj g).run P w = .ok (.map es ck) w := by
  simp [getObj, Sem.run, h]
theorem run_setObj_map {g : Nat} {w : World} {es : Array MapEntry} {ck : Nat} (h : w.heap[g]? = some (.map es ck)) (o : Obj) : (setObj g o).run P w = .ok () { w with heap := w.heap.setIfInBounds g o } := by
  simp [setObj, Sem.run, h]

def mLookup (tt : Nat → Option Ty) (h : H) (t : Nat) : SV → SV → MR
  | .map b, .str q => (mapTy tt t).bind fun k => match fget h.hp b with
    | some (.map k' m _) => bif decide (k = k') then some ([], some (.int k (mMget m q)), h) else none
    | _ => none
  | _, _ => none
theorem mLookup_ok {tt : Nat → Option Ty} (ht : TabOk P tt) {h h' : H} {t : Nat} {x q : SV} {sv : Option SV} {g : List X} (e : mLookup tt h t x q = some (g, sv, h'))
    {w0 : W0} {B : Nat} {ρ : Env} {σ : Pl} {w : World} (hr : HOk w0 B ρ σ h w) :
    ∃ s, sv = some s ∧ h' = h ∧ (Instr.lookup t (x.val ρ σ) (q.val ρ σ) false).run P w = .ok (s.val ρ σ) w := by
  unfold mLookup at e
  split at e
  case h_2 => cases e
  rename_i b q
  obtain ⟨k, hk, e⟩ := bind1 e
  obtain ⟨kt, vt, h1, h2, h3⟩ := mapTy_ok ht hk
  split at e
  case h_2 => cases e
  rename_i k' m st hb
  cases hc : decide (k = k') with
  | false => simp [hc] at e
  | true =>
    simp only [hc, cond_true, Option.some.injEq, Prod.mk.injEq] at e
    obtain ⟨rfl, rfl, rfl⟩ := e
    have hc' : k = k' := by simpa using hc
    subst hc'
    obtain ⟨_, _, es, ck, hw, L, hL⟩ := hr.blk b _ hb
    refine ⟨_, rfl, rfl, ?_⟩
    have hck : (Instr.checkKey es.isEmpty 10000 kt (.string (q.den ρ).asS)).run P w = .ok () w := run_checkKey_string _ 9999 kt _ h2 w
    have hfk := run_findKey_string (P := P) kt (q.den ρ).asS h2 w k L
    rw [← hL.es] at hfk
    have hlook := hL.look (q.den ρ).asS
    simp only [Instr.lookup, Sem.run_bind, run_underlying h1, Result.andThen_ok, SV.val, run_getObj_map hw, Sem.run_pure, hck, hfk, mMget_den]
    cases hl : lkp L (q.den ρ).asS 0 with
    | none => rw [hl] at hlook; simp only [Option.elim] at hlook; simp [h3, ← hlook]
    | some p => rw [hl] at hlook; simp only [Option.elim] at hlook; simp [← hlook]

theorem setObj_change {w0 : W0} {B : Nat} {ρ : Env} {σ : Pl} {h h1 : H} {w : World} (hr : HOk w0 B ρ σ h w) {b : Nat} {k k' : Blk} (hk : fget h.hp b = some k) (ho : k.own = true)
    (o : Obj) (hhp : h1.hp = h.hp) (hfs : h1.fs = h.fs) (hk' : BlkOk B ρ σ { w with heap := w.heap.setIfInBounds (σ b).1 o } b k') :
    HOk w0 B ρ σ { h1 with hp := fset b k' h1.hp } { w with heap := w.heap.setIfInBounds (σ b).1 o } := by
  have hge := (hr.blk b k hk).own_ge ho
  refine hr.change b k' (by show fset b k' h1.hp = _; rw [hhp]) hfs rfl rfl rfl (by simp) ?_ hge.1 ?_ hk'
  · intro i _ hi
    exact Array.getElem?_setIfInBounds_ne (Ne.symm hi)
  · intro c l hc hcl hol e
    exact hc (hr.apart c b l k hcl hk hol ho e)

def mMapUpd (tt : Nat → Option Ty) (h : H) (t : Nat) : SV → SV → SV → MR
  | .map b, .str q, .int kv v => (mapTy tt t).bind fun k => match fget h.hp b with
    | some (.map k' m st) => bif decide (k = k') && decide (k = kv) then some ([], none, { h with hp := fset b (.map k (mMset m q v) st) h.hp }) else none
    | _ => none
  | _, _, _ => none
theorem mMapUpd_ok {tt : Nat → Option Ty} (ht : TabOk P tt) {h h' : H} {t : Nat} {x q v : SV} {sv : Option SV} {g : List X} (e : mMapUpd tt h t x q v = some (g, sv, h'))
    {w0 : W0} {B : Nat} {ρ : Env} {σ : Pl} {w : World} (hr : HOk w0 B ρ σ h w) :
    sv = none ∧ ∃ w', (Instr.mapUpdate t (x.val ρ σ) (q.val ρ σ) (v.val ρ σ)).run P w = .ok () w' ∧ HOk w0 B ρ σ h' w' := by
  unfold mMapUpd at e
  split at e
  case h_2 => cases e
  rename_i b q kv v
  obtain ⟨k, hk, e⟩ := bind1 e
  obtain ⟨kt, vt, h1, h2, h3⟩ := mapTy_ok ht hk
  split at e
  case h_2 => cases e
  rename_i k' m st hb
  cases hc : (decide (k = k') && decide (k = kv)) with
  | false => simp [hc] at e
  | true =>
    simp only [hc, cond_true, Option.some.injEq, Prod.mk.injEq] at e
    obtain ⟨rfl, rfl, rfl⟩ := e
    simp only [Bool.and_eq_true, decide_eq_true_eq] at hc
    obtain ⟨rfl, rfl⟩ := hc
    obtain ⟨hB, h0, es, ck, hw, L, hL⟩ := hr.blk b _ hb
    refine ⟨rfl, ?_⟩
    have hck : (Instr.checkKey false 10000 kt (.string (q.den ρ).asS)).run P w = .ok () w := run_checkKey_string _ 9999 kt _ h2 w
    have hfk := run_findKey_string (P := P) kt (q.den ρ).asS h2 w k L
    rw [← hL.es] at hfk
    have hlt := (Array.getElem?_eq_some_iff.1 hw).1
    have hset : ∀ o : Obj, ({ w with heap := w.heap.setIfInBounds (σ b).1 o } : World).heap[(σ b).1]? = some o := fun o => by simp [hlt]
    cases hl : lkp L (q.den ρ).asS 0 with
    | none =>
      rw [hl] at hfk
      refine ⟨{ w with heap := w.heap.setIfInBounds (σ b).1 (.map (es.push (enc k ((q.den ρ).asS, (v.den ρ).asI, ck))) (ck + 1)) }, ?_, setObj_change hr hb rfl _ rfl rfl ?_⟩
      · simp only [Instr.mapUpdate, Sem.run_bind, run_underlying h1, Result.andThen_ok, SV.val, run_getObj_map hw, hck, hfk, Option.map_none, run_setObj_map hw, enc]
      · refine ⟨hB, h0, _, _, hset _, ?_⟩
        have := hL.push (lkp_none hl) (v.den ρ).asI
        rw [mMset_den]
        exact ⟨_, this⟩
    | some p =>
      obtain ⟨j, en⟩ := p
      rw [hl] at hfk
      obtain ⟨m', hj, hm, hen⟩ := lkp_some hl
      obtain rfl : m' = j := by omega
      clear hj
      have hes : (es.modify m' fun e => { e with key := .string (q.den ρ).asS, val := .int k (v.den ρ).asI }).toList = (L.modify m' fun x => (x.1, (v.den ρ).asI, x.2.2)).map (enc k) := by
        apply modify_enc k es L hL.es
        intro e he
        rw [hm] at he; cases he
        simp [enc, hen]
      have hold : ((es[m']?).map (·.key)).getD (.string (q.den ρ).asS) = .string (q.den ρ).asS := by
        have : es[m']? = some (enc k en) := by rw [← Array.getElem?_toList, hL.es]; simp [hm]
        simp [this, enc, hen]
      have hstays : (Instr.keyThatStays (.string (q.den ρ).asS) (.string (q.den ρ).asS)).run P w = .ok (.string (q.den ρ).asS) w := by
        have : Instr.sameBits (9999 + 1) (.string (q.den ρ).asS) (.string (q.den ρ).asS) = true := by simp [Instr.sameBits, beq_bytes]
        unfold Instr.keyThatStays
        rw [if_pos this]; rfl
      refine ⟨{ w with heap := w.heap.setIfInBounds (σ b).1 (.map (es.modify m' fun e => { e with key := .string (q.den ρ).asS, val := .int k (v.den ρ).asI }) ck) }, ?_, setObj_change hr hb rfl _ rfl rfl ?_⟩
      · simp only [Instr.mapUpdate, Sem.run_bind, run_underlying h1, Result.andThen_ok, SV.val, run_getObj_map hw, hck, hfk, Option.map_some, hold, hstays, run_setObj_map hw]
      · refine ⟨hB, h0, _, _, hset _, ?_⟩
        have := hL.turn hm (v.den ρ).asI _ hes
        rw [mMset_den]
        rw [hen] at this
        exact ⟨_, this⟩
end Go.SE
end
