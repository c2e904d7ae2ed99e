import Derived.Test.YtkphkjffcpkhjaaDoorSe5
import Derived.WalkSpells
/-! The symbolic executor: composite values, comparisons with nil, conversions, builtins: the operations without memory, in one function. -/
noncomputable section
set_option linter.unusedSimpArgs false
set_option linter.unusedVariables false
namespace Go.SE
variable {P : Program}

/-- v's cells laid over others, from a place on. -/
def splice (l : List SV) (off : Nat) (v : List SV) : List SV := l.take off ++ v ++ l.drop (off + v.length)
theorem fold_set {α : Type} (v : List α) : ∀ (c : Array α) (off i : Nat), off + i + v.length ≤ c.size →
    ((v.zipIdx i).foldl (fun cs q => cs.setIfInBounds (off + q.2) q.1) c).toList = c.toList.take (off + i) ++ v ++ c.toList.drop (off + i + v.length) := by
  induction v with
  | nil => intro c off i h; simp
  | cons a v ih =>
    intro c off i h
    simp only [List.length_cons] at h
    rw [List.zipIdx_cons, List.foldl_cons, ih _ off (i + 1) (by simp; omega)]
    simp only [Array.toList_setIfInBounds, List.length_cons]
    have hi : off + i < c.toList.length := by simp; omega
    have e1 : (c.toList.set (off + i) a).take (off + (i + 1)) = c.toList.take (off + i) ++ [a] := by
      rw [← Nat.add_assoc, List.take_succ_eq_append_getElem (by simpa using hi)]
      simp [List.take_set_of_le]
    have e2 : (c.toList.set (off + i) a).drop (off + (i + 1) + v.length) = c.toList.drop (off + i + (v.length + 1)) := by
      rw [List.drop_set_of_lt (by omega)]
      congr 1; omega
    rw [e1, e2]; simp

def fillS (place : Nat → Option (Nat × Nat)) : List SV → List (Nat × SV) → Option (List SV)
  | l, [] => some l
  | l, (i, v) :: rest => (place i).bind fun q =>
    bif Nat.beq v.cells.length q.2 && Nat.ble (q.1 + v.cells.length) l.length then fillS place (splice l q.1 v.cells) rest else none
theorem fillS_ok (place : Nat → Option (Nat × Nat)) (ρ : Env) (σ : Pl) : ∀ (ps : List (Nat × SV)) (l r : List SV), fillS place l ps = some r →
    Instr.fill place (l.map (SV.val ρ σ)).toArray (ps.map fun q => (q.1, q.2.val ρ σ)) = some (r.map (SV.val ρ σ)).toArray
  | [], l, r, h => by simp only [fillS, Option.some.injEq] at h; subst h; rfl
  | (i, v) :: rest, l, r, h => by
    simp only [fillS] at h
    cases hp : place i with
    | none => simp [hp] at h
    | some q =>
      obtain ⟨off, size⟩ := q
      simp only [hp, Option.bind_some] at h
      cases hc : (Nat.beq v.cells.length size && Nat.ble (off + v.cells.length) l.length) with
      | false => simp [hc] at h
      | true =>
        simp only [hc, cond_true] at h
        simp only [Bool.and_eq_true, beq_true, Nat.ble_eq] at hc
        have ih := fillS_ok place ρ σ rest _ r h
        rw [← ih]
        simp only [List.map_cons, Instr.fill, hp, SV.cells_val]
        rw [if_neg (by simp; omega)]
        congr 1
        apply Array.ext'
        have := fold_set (v.cells.map (SV.val ρ σ)) (l.map (SV.val ρ σ)).toArray off 0 (by simp; omega)
        simp only [Nat.add_zero] at this
        rw [← Array.foldl_toList, Array.toList_zipIdx, this]
        simp [splice, List.map_take, List.map_drop]

def places (tt : Nat → Option Ty) : UL → Option (Nat → Option (Nat × Nat))
  | .struct fs => some fun i => (fs[i]?).map fun q => (q.2.1, q.2.2)
  | .arr _ e => (tt e).map fun ety => fun i => some (i * ety.size, ety.size)
  | _ => none
def pBuild (tt : Nat → Option Ty) (t : Nat) (ps : List (Nat × SV)) : PR :=
  (tt t).bind fun ty => match ty.zero with
    | some (.agg z) => (places tt ty.ul).bind fun pl => (fillS pl z ps).map fun l => ([], .agg l)
    | _ => none
theorem mapM_places (F : List Field) (fs : List (Nat × Nat × Nat)) (hm : F.map (fun f => (f.type, f.offset)) = fs.map (fun q => (q.1, q.2.1)))
    (hs : ∀ q ∈ fs, ∃ i, P.info? q.1 = some i ∧ i.size = q.2.2) (w : World) :
    (F.mapM (fun (f : Field) => (do pure (f.offset, ← sizeOf f.type) : Sem (Nat × Nat)))).run P w = .ok (fs.map fun (q : Nat × Nat × Nat) => (q.2.1, q.2.2)) w := by
  induction F generalizing fs with
  | nil => cases fs with
    | nil => simp
    | cons _ _ => simp at hm
  | cons f F ih => cases fs with
    | nil => simp at hm
    | cons q fs =>
      simp only [List.map_cons, List.cons.injEq, Prod.mk.injEq] at hm
      obtain ⟨i, hi, hsz⟩ := hs q (List.mem_cons_self)
      have := ih fs hm.2 (fun q hq => hs q (List.mem_cons_of_mem _ hq))
      have h1 : (sizeOf f.type).run P w = .ok q.2.2 w := by rw [hm.1.1]; simp [sizeOf, typeInfo, hi, hsz]
      simp only [List.mapM_cons, Sem.run_bind, h1, Result.andThen_ok, Sem.run_pure, this, List.map_cons, hm.1.2]
theorem pBuild_ok {tt : Nat → Option Ty} (ht : TabOk P tt) {t : Nat} {ps : List (Nat × SV)} {s : SV} {g : List X} (h : pBuild tt t ps = some (g, s)) (ρ : Env) (σ : Pl) (w : World) :
    (Instr.build t (ps.map fun q => (q.1, q.2.val ρ σ)).toArray).run P w = .ok (s.val ρ σ) w := by
  unfold pBuild at h
  cases h1 : tt t with
  | none => simp [h1] at h
  | some ty =>
    simp only [h1, Option.bind_some] at h
    split at h
    · rename_i z hz
      have hzr := run_zero_ok (ht t ty h1) hz ρ σ w
      have hu := (ht t ty h1).ul
      cases hul : ty.ul <;> simp only [hul, places, Option.bind_none, reduceCtorEq] at h
      case struct fs =>
        simp only [Option.bind_some] at h
        rw [hul] at hu
        obtain ⟨F, hF, hm, hs⟩ := hu
        cases hf : fillS (fun i => (fs[i]?).map fun q => (q.2.1, q.2.2)) z ps with
        | none => simp [hf] at h
        | some l =>
          simp only [hf, Option.map_some, Option.some.injEq, Prod.mk.injEq] at h
          obtain ⟨rfl, rfl⟩ := h
          have hfill := fillS_ok _ ρ σ ps z l hf
          have hmm := mapM_places (P := P) F.toList fs hm hs w
          have hpl : (fun (i : Nat) => ((fs.map fun (q : Nat × Nat × Nat) => (q.2.1, q.2.2)).toArray)[i]?) = (fun i => (fs[i]?).map fun q => (q.2.1, q.2.2)) := by
            funext i; simp
          unfold Instr.build
          simp only [Sem.run_bind, hzr, Result.andThen_ok, run_underlying hF]
          rw [← Array.toArray_toList (xs := F), List.mapM_toArray]
          simp only [Sem.run_map, Sem.run_bind, hmm, Result.andThen_ok, hpl, SV.val, Value.cells, vals_eq, hfill, Sem.run_pure]
      case arr n e =>
        rw [hul] at hu
        simp only [ULOk] at hu
        cases h2 : tt e with
        | none => simp [h2] at h
        | some ety =>
          simp only [h2, Option.map_some, Option.bind_some] at h
          cases hf : fillS (fun i => some (i * ety.size, ety.size)) z ps with
          | none => simp [hf] at h
          | some l =>
            simp only [hf, Option.map_some, Option.some.injEq, Prod.mk.injEq] at h
            obtain ⟨rfl, rfl⟩ := h
            have hfill := fillS_ok _ ρ σ ps z l hf
            unfold Instr.build
            simp only [Sem.run_bind, hzr, Result.andThen_ok, run_underlying hu, run_size_ok (ht e ety h2), SV.val, Value.cells, vals_eq, hfill, Sem.run_pure]
    · cases h

/-- comparisons with nil. -/
def isNil : SV → Bool
  | .nilp | .nils | .nilmap | .nilfn | .niface => true
  | _ => false
def nilEq (tt : Nat → Option Ty) (t : Nat) (x y : SV) : Option Bool :=
  (tt t).bind fun ty => match ty.ul, x, y with
    | .ptr _, .nilp, .nilp => some true
    | .ptr _, .nilp, .ptr .. => some false
    | .ptr _, .ptr .., .nilp => some false
    | .slice _, .nils, .nils => some true
    | .slice _, .slice .., .nils => some false
    | .slice _, .nils, .slice .. => some false
    | .map .., .nilmap, .nilmap => some true
    | .map .., .map _, .nilmap => some false
    | .map .., .nilmap, .map _ => some false
    | .iface, .iface .., .niface => some false
    | .iface, .niface, .iface .. => some false
    | .func, .nilfn, .nilfn => some true
    | .func, .fn .., .nilfn => some false
    | .func, .nilfn, .fn .. => some false
    | _, _, _ => none
theorem nilEqIn_ok {tt : Nat → Option Ty} (ht : TabOk P tt) {t : Nat} {x y : SV} {b : Bool} (h : nilEq tt t x y = some b) (ρ : Env) (σ : Pl) (w : World) (d : Nat) :
    (Op.equalIn (d + 1) t (x.val ρ σ) (y.val ρ σ)).run P w = .ok b w := by
  unfold nilEq at h
  cases h1 : tt t with
  | none => simp [h1] at h
  | some ty =>
    simp only [h1, Option.bind_some] at h
    have hu := (ht t ty h1).ul
    split at h <;> first
      | (cases h; done)
      | (rename_i hul; rw [hul] at hu; simp only [ULOk] at hu; simp only [Option.some.injEq] at h; subst h
         first
          | (simp only [Op.equalIn, Sem.run_bind, run_underlying hu, Result.andThen_ok, SV.val, Sem.run_pure, Option.isNone_none, Option.isNone_some]; done)
          | (obtain ⟨_, hu⟩ := hu; simp only [Op.equalIn, Sem.run_bind, run_underlying hu, Result.andThen_ok, SV.val, Sem.run_pure, Option.isNone_none, Option.isNone_some]; done)
          | (obtain ⟨_, _, _, hu⟩ := hu; simp only [Op.equalIn, Sem.run_bind, run_underlying hu, Result.andThen_ok, SV.val, Sem.run_pure, Option.isNone_none, Option.isNone_some]; done))
theorem nilEq_ok {tt : Nat → Option Ty} (ht : TabOk P tt) {t : Nat} {x y : SV} {b : Bool} (h : nilEq tt t x y = some b) (ρ : Env) (σ : Pl) (w : World) :
    (Op.equal t (x.val ρ σ) (y.val ρ σ)).run P w = .ok b w := nilEqIn_ok ht h ρ σ w 9999
end Go.SE
end
