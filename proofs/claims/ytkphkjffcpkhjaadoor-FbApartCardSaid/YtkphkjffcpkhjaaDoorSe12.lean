import Derived.Test.YtkphkjffcpkhjaaDoorSe11
import Derived.Laws.StructEq
/-! The symbolic executor: maps with strings as keys and whole numbers as values. -/
noncomputable section
set_option linter.unusedSimpArgs false
set_option linter.unusedVariables false
namespace Go.SE
open Go.RowKit (Below)
variable {P : Program}

theorem keyS_inj {a b : ByteArray} (h : keyS a = keyS b) : a = b := by
  apply ByteArray.ext
  apply Array.ext'
  unfold keyS at h
  refine (List.map_inj_right ?_).1 h
  intro x y hxy
  exact UInt8.toNat_inj.1 (Int.ofNat.inj hxy)
theorem beq_bytes (a b : ByteArray) : (a == b) = decide (a = b) := by
  rw [beq_toListBytes]
  by_cases h : a = b
  · subst h; simp
  · have : a.toList ≠ b.toList := by
      intro e
      rw [ByteArray.toList_eq, ByteArray.toList_eq] at e
      exact h (ByteArray.ext (Array.ext' e))
    simp [h, this]

def lkp : List (ByteArray × Int × Nat) → ByteArray → Nat → Option (Nat × (ByteArray × Int × Nat))
  | [], _, _ => none
  | e :: L, s, i => if s = e.1 then some (i, e) else lkp L s (i + 1)
theorem findNow_enc (k : IntKind) (s : ByteArray) : ∀ (L : List (ByteArray × Int × Nat)) (i : Nat),
    Instr.findNow .string (.string s) (L.map (enc k)) i = some ((lkp L s i).map fun q => (q.1, .int k q.2.2.1))
  | [], i => rfl
  | e :: L, i => by
    simp only [List.map_cons, Instr.findNow, enc, Instr.sameNow, lkp]
    by_cases h : s = e.1
    · simp [h, beq_bytes]
    · have : (s == e.1) = false := by rw [beq_bytes]; simpa using h
      simp only [this, h, if_false]
      exact findNow_enc k s L (i + 1)
theorem lkp_some : ∀ {L : List (ByteArray × Int × Nat)} {s : ByteArray} {i j : Nat} {e : ByteArray × Int × Nat}, lkp L s i = some (j, e) → ∃ m, j = i + m ∧ L[m]? = some e ∧ e.1 = s
  | [], s, i, j, e, h => by cases h
  | e' :: L, s, i, j, e, h => by
    simp only [lkp] at h
    by_cases hs : s = e'.1
    · simp only [hs, if_true, Option.some.injEq, Prod.mk.injEq] at h
      obtain ⟨rfl, rfl⟩ := h
      exact ⟨0, rfl, rfl, hs.symm⟩
    · simp only [hs, if_false] at h
      obtain ⟨m, rfl, h2, h3⟩ := lkp_some h
      exact ⟨m + 1, by omega, by simpa using h2, h3⟩
theorem lkp_none : ∀ {L : List (ByteArray × Int × Nat)} {s : ByteArray} {i : Nat}, lkp L s i = none → ∀ e ∈ L, e.1 ≠ s
  | [], s, i, _ => by simp
  | e' :: L, s, i, h => by
    simp only [lkp] at h
    by_cases hs : s = e'.1
    · simp [hs] at h
    · simp only [hs, if_false] at h
      intro e he
      simp only [List.mem_cons] at he
      rcases he with rfl | he
      · exact Ne.symm hs
      · exact lkp_none h e he

theorem modify_enc (k : IntKind) (es : Array MapEntry) (L : List (ByteArray × Int × Nat)) (h : es.toList = L.map (enc k)) (i : Nat) (g : MapEntry → MapEntry) (g' : ByteArray × Int × Nat → ByteArray × Int × Nat)
    (hg : ∀ e, L[i]? = some e → g (enc k e) = enc k (g' e)) : (es.modify i g).toList = (L.modify i g').map (enc k) := by
  rw [Array.toList_modify, h]
  apply List.ext_getElem?
  intro j
  simp only [List.getElem?_modify, List.getElem?_map]
  by_cases e : i = j
  · subst e
    cases hl : L[i]? with
    | none => simp
    | some x => simp [hg x hl]
  · simp [e]

theorem nodup_inj {α : Type} {l : List α} (h : l.Nodup) {i j : Nat} (hi : i < l.length) (hj : j < l.length) (e : l[i] = l[j]) : i = j := by
  have hp := List.pairwise_iff_getElem.1 h
  rcases Nat.lt_trichotomy i j with hlt | heq | hgt
  · exact absurd e (hp i j hi hj hlt)
  · exact heq
  · exact absurd e.symm (hp j i hj hi hgt)
section
variable {ρ : Env} {k : IntKind} {es : Array MapEntry} {ck : Nat} {f : List Int → Int} {st : List (List Nat × Nat)} {L : List (ByteArray × Int × Nat)}
theorem MapRep.look (h : MapRep ρ k es ck f st L) (s : ByteArray) : (lkp L s 0).elim 0 (fun q => q.2.2.1) = f (keyS s) := by
  cases hl : lkp L s 0 with
  | none => exact (h.not s (lkp_none hl)).symm
  | some q =>
    obtain ⟨j, e⟩ := q
    obtain ⟨m, _, h2, h3⟩ := lkp_some hl
    simp only [Option.elim]
    rw [← h3]
    exact (h.has e (List.mem_of_getElem? h2)).symm
theorem mem_modify {α : Type} {l : List α} {i : Nat} {g : α → α} {x : α} (h : x ∈ l.modify i g) : (∃ j, j ≠ i ∧ l[j]? = some x) ∨ ∃ y, l[i]? = some y ∧ x = g y := by
  obtain ⟨j, hj⟩ := List.getElem?_of_mem h
  rw [List.getElem?_modify] at hj
  by_cases e : i = j
  · subst e
    cases hl : l[i]? with
    | none => simp [hl] at hj
    | some y => simp [hl] at hj; exact .inr ⟨y, rfl, hj.symm⟩
  · simp [e] at hj
    exact .inl ⟨j, Ne.symm e, hj⟩
theorem map_modify_eq {α β : Type} (p : α → β) (l : List α) (i : Nat) (g : α → α) (h : ∀ x, l[i]? = some x → p (g x) = p x) : (l.modify i g).map p = l.map p := by
  apply List.ext_getElem?
  intro j
  simp only [List.getElem?_map, List.getElem?_modify]
  by_cases e : i = j
  · subst e
    cases hl : l[i]? with
    | none => simp
    | some x => simp [h x hl]
  · simp [e]
/-- An entry's value turned. -/
theorem MapRep.turn (h : MapRep ρ k es ck f st L) {m : Nat} {e : ByteArray × Int × Nat} (hm : L[m]? = some e) (v : Int) (es' : Array MapEntry)
    (hes : es'.toList = (L.modify m fun x => (x.1, v, x.2.2)).map (enc k)) :
    MapRep ρ k es' ck (fun q => if q = keyS e.1 then v else f q) st (L.modify m fun x => (x.1, v, x.2.2)) := by
  have huniq : ∀ j x, L[j]? = some x → x.1 = e.1 → j = m := by
    intro j x hj hx
    have h1 : (L.map (·.1))[j]? = some e.1 := by simp [hj, hx]
    have h2 : (L.map (·.1))[m]? = some e.1 := by simp [hm]
    have hjl := (List.getElem?_eq_some_iff.1 h1)
    have hml := (List.getElem?_eq_some_iff.1 h2)
    exact nodup_inj h.keys hjl.1 hml.1 (hjl.2.trans hml.2.symm)
  refine ⟨hes, ?_, ?_, ?_, ?_, ?_, ?_⟩
  · rw [map_modify_eq]; exact h.keys
    intro x _; rfl
  · rw [map_modify_eq]; exact h.borns
    intro x _; rfl
  · intro x hx
    rcases mem_modify hx with ⟨j, _, hj⟩ | ⟨y, hy, rfl⟩
    · exact h.born x (List.mem_of_getElem? hj)
    · exact h.born y (List.mem_of_getElem? hy)
  · intro x hx
    rcases mem_modify hx with ⟨j, hne, hj⟩ | ⟨y, hy, rfl⟩
    · have : keyS x.1 ≠ keyS e.1 := fun he => hne (huniq j x hj (keyS_inj he))
      simp only [this, if_false]
      exact h.has x (List.mem_of_getElem? hj)
    · rw [hm] at hy; cases hy
      simp
  · intro s hs
    have h1 : s ≠ e.1 := by
      intro he
      have : (e.1, v, e.2.2) ∈ L.modify m fun x => (x.1, v, x.2.2) := by
        apply List.mem_of_getElem? (i := m)
        simp [hm]
      exact hs _ this he.symm
    have h2 : keyS s ≠ keyS e.1 := fun he => h1 (keyS_inj he)
    simp only [h2, if_false]
    refine h.not s fun x hx he => ?_
    obtain ⟨j, hj⟩ := List.getElem?_of_mem hx
    by_cases hjm : j = m
    · subst hjm; rw [hm] at hj; cases hj; exact h1 he.symm
    · exact hs x (List.mem_of_getElem? (i := j) (by rw [List.getElem?_modify]; simp [Ne.symm hjm, hj])) he
  · intro q hq
    obtain ⟨x, hx, hx1, hx2⟩ := h.st q hq
    obtain ⟨j, hj⟩ := List.getElem?_of_mem hx
    by_cases hjm : j = m
    · subst hjm
      exact ⟨(x.1, v, x.2.2), List.mem_of_getElem? (i := j) (by simp [hj]), hx1, hx2⟩
    · exact ⟨x, List.mem_of_getElem? (i := j) (by rw [List.getElem?_modify]; simp [Ne.symm hjm, hj]), hx1, hx2⟩
/-- A new entry. -/
theorem MapRep.push (h : MapRep ρ k es ck f st L) {s : ByteArray} (hs : ∀ e ∈ L, e.1 ≠ s) (v : Int) :
    MapRep ρ k (es.push (enc k (s, v, ck))) (ck + 1) (fun q => if q = keyS s then v else f q) st (L ++ [(s, v, ck)]) := by
  refine ⟨by simp [h.es], ?_, ?_, ?_, ?_, ?_, ?_⟩
  · rw [List.map_append]
    refine List.nodup_append.2 ⟨h.keys, by simp, ?_⟩
    intro a ha b hb
    simp at ha hb
    obtain ⟨x, y, ha⟩ := ha
    subst hb
    exact hs _ ha
  · rw [List.map_append]
    refine List.nodup_append.2 ⟨h.borns, by simp, ?_⟩
    intro a ha b hb
    simp at ha hb
    obtain ⟨x, y, ha⟩ := ha
    subst hb
    have := h.born _ ha
    simp at this
    omega
  · intro e he
    simp only [List.mem_append, List.mem_singleton] at he
    rcases he with he | rfl
    · exact Nat.lt_succ_of_lt (h.born e he)
    · exact Nat.lt_succ_self _
  · intro e he
    simp only [List.mem_append, List.mem_singleton] at he
    rcases he with he | rfl
    · have : keyS e.1 ≠ keyS s := fun x => hs e he (keyS_inj x)
      simp only [this, if_false]
      exact h.has e he
    · simp
  · intro q hq
    have h1 : q ≠ s := fun e => hq (s, v, ck) (by simp) e.symm
    have h2 : keyS q ≠ keyS s := fun x => h1 (keyS_inj x)
    simp only [h2, if_false]
    exact h.not q fun e he => hq e (by simp [he])
  · intro q hq
    obtain ⟨x, hx, h1⟩ := h.st q hq
    exact ⟨x, by simp [hx], h1⟩
end
end Go.SE
end
