import Derived.Test.YtkphkjffcpkhjaaDoorSe19
/-! The symbolic executor: a region that draws its order; code; calls. -/
noncomputable section
set_option linter.unusedSimpArgs false
set_option linter.unusedVariables false
namespace Go.SE
open Go.RowKit (Below)
variable {P : Program} {w0 : W0} {I : Interp}

/-! Small laws of the making ready. -/
theorem lfold_nil {α β : Type} (f : α → β → β) (z : β) : lfold f z [] = z := rfl
theorem lfold_cons {α β : Type} (f : α → β → β) (z : β) (a : α) (l : List α) : lfold f z (a :: l) = f a (lfold f z l) := rfl
theorem allB_iff {α : Type} {p : α → Bool} : ∀ {l : List α}, allB p l = true ↔ ∀ a ∈ l, p a = true
  | [] => by simp [allB, lfold_nil]
  | a :: l => by
    have ih := allB_iff (p := p) (l := l)
    have h : allB p (a :: l) = bif p a then allB p l else false := rfl
    rw [h]
    cases hp : p a with
    | false => simp [hp]
    | true => simp only [cond_true, ih, List.mem_cons, forall_eq_or_imp, hp, true_and]
theorem filB_eq {α : Type} (p : α → Bool) : ∀ (l : List α), filB p l = l.filter p
  | [] => rfl
  | a :: l => by
    have ih := filB_eq p l
    unfold filB at ih ⊢
    rw [lfold_cons, ih]
    cases hp : p a <;> simp [hp]
theorem land_test (a b t : Nat) : (Nat.land a b).testBit t = (a.testBit t && b.testBit t) := Nat.testBit_and a b t
theorem lor_test (a b t : Nat) : (Nat.lor a b).testBit t = (a.testBit t || b.testBit t) := Nat.testBit_or a b t
theorem pow_test (a t : Nat) : (Nat.pow 2 a).testBit t = decide (a = t) := Nat.testBit_two_pow
theorem bitsL_test (t : Nat) : ∀ (l : List Nat), (bitsL l).testBit t = true ↔ t ∈ l
  | [] => by simp [bitsL, lfold_nil]
  | a :: l => by
    have ih := bitsL_test t l
    unfold bitsL at ih ⊢
    rw [lfold_cons, lor_test, pow_test]
    simp only [Bool.or_eq_true, decide_eq_true_eq, List.mem_cons, ih]
    exact ⟨fun h => h.imp Eq.symm id, fun h => h.imp Eq.symm id⟩
theorem land_zero {i m : Nat} : Nat.beq (Nat.land (Nat.pow 2 i) m) 0 = true ↔ m.testBit i = false := by
  rw [beq_true]
  constructor
  · intro h
    have := land_test (Nat.pow 2 i) m i
    rw [h, pow_test] at this
    simpa using this.symm
  · intro h
    refine Nat.eq_of_testBit_eq fun t => ?_
    rw [land_test, pow_test, Nat.zero_testBit]
    by_cases e : i = t
    · subst e; rw [h, Bool.and_false]
    · simp [e]
theorem land_sub {a m : Nat} : Nat.beq (Nat.land a m) a = true ↔ ∀ t, a.testBit t = true → m.testBit t = true := by
  rw [beq_true]
  constructor
  · intro h t ht
    have := land_test a m t
    rw [h, ht] at this
    simpa using this.symm
  · intro h
    refine Nat.eq_of_testBit_eq fun t => ?_
    rw [land_test]
    cases ht : a.testBit t with
    | false => rfl
    | true => rw [h t ht]; rfl
theorem prepGo_get {all : Array Oper} : ∀ (l : List Oper) (i k : Nat), (prepGo all i l)[k]? = (l[k]?).map (rgOf all (i + k))
  | [], i, k => by simp [prepGo]
  | o :: l, i, 0 => by simp [prepGo]
  | o :: l, i, k + 1 => by
    simp only [prepGo, List.getElem?_cons_succ, prepGo_get l (i + 1) k]
    rw [show i + 1 + k = i + (k + 1) by omega]
theorem prep_get (all : Array Oper) (k : Nat) : (prep all)[k]? = (all[k]?).map (rgOf all k) := by
  unfold prep
  rw [prepGo_get, Nat.zero_add, Array.getElem?_toList]
theorem prep_mem {all : Array Oper} {r : Rg} : r ∈ prep all ↔ ∃ i o, all[i]? = some o ∧ r = rgOf all i o := by
  rw [List.mem_iff_getElem?]
  constructor
  · rintro ⟨k, hk⟩
    rw [prep_get, Option.map_eq_some_iff] at hk
    obtain ⟨o, ho, rfl⟩ := hk
    exact ⟨k, o, ho, rfl⟩
  · rintro ⟨i, o, ho, rfl⟩
    exact ⟨i, by rw [prep_get, ho]; rfl⟩
theorem mem_aheads {o : Oper} {j : Nat} : j ∈ aheads o ↔ ∃ e ∈ o.after, Region.binds .any e = true ∧ e.on = j := by
  simp only [aheads, List.mem_map, List.mem_filter, Array.mem_toList_iff]
  constructor
  · rintro ⟨e, ⟨h1, h2⟩, h3⟩; exact ⟨e, h1, h2, h3⟩
  · rintro ⟨e, h1, h2, h3⟩; exact ⟨e, ⟨h1, h2⟩, h3⟩
theorem rdB_test {r : Rg} {t : Nat} (h : r.d.testBit t = true) : ∀ {l : List Rg}, r ∈ l → (rdB l).testBit t = true
  | s :: l, hm => by
    unfold rdB
    rw [lfold_cons, lor_test]
    simp only [List.mem_cons] at hm
    rcases hm with rfl | hm
    · rw [h]; rfl
    · have := rdB_test h hm
      unfold rdB at this
      rw [this, Bool.or_true]
theorem disjB_ok : ∀ {l : List Rg}, disjB l = true → ∀ {i j : Nat} {r s : Rg}, i < j → l[i]? = some r → l[j]? = some s → ∀ t, r.d.testBit t = true → s.d.testBit t = true → False
  | [], _, i, j, r, s, _, h1, _, _, _, _ => by simp at h1
  | a :: l, h, i, j, r, s, hij, h1, h2, t, ht, hs => by
    simp only [disjB] at h
    cases hb : Nat.beq (Nat.land a.d (rdB l)) 0 with
    | false => rw [hb] at h; cases h
    | true =>
      rw [hb] at h
      simp only [cond_true] at h
      cases j with
      | zero => omega
      | succ j =>
        simp only [List.getElem?_cons_succ] at h2
        cases i with
        | zero =>
          simp only [List.getElem?_cons_zero, Option.some.injEq] at h1
          subst h1
          have h3 := rdB_test hs (List.mem_of_getElem? h2)
          have h4 := land_test a.d (rdB l) t
          rw [beq_true.1 hb, ht, h3] at h4
          simp at h4
        | succ i =>
          simp only [List.getElem?_cons_succ] at h1
          exact disjB_ok h (by omega) h1 h2 t ht hs
structure Ssa (all : Array Oper) : Prop where
  dst : ∀ (i j : Nat) (oi oj : Oper) (t : Nat), all[i]? = some oi → all[j]? = some oj → oi.dst = some t → oj.dst = some t → i = j
  look : ∀ (i x : Nat) (oi ox : Oper) (t : Nat), all[i]? = some oi → all[x]? = some ox → t ∈ oi.looksAt all → ox.dst = some t → (∃ e ∈ oi.after, Region.binds .any e = true ∧ e.on = x) ∨ (∃ e ∈ ox.after, Region.binds .any e = true ∧ e.on = i) ∨ x = i
  sel : ∀ (j : Nat) (o : Oper) (cs : Array SelectCase) (b : Bool), all[j]? = some o → o.op ≠ .select cs b
theorem dstB_test {d : Option Nat} {t : Nat} : (dstB d).testBit t = true ↔ d = some t := by
  cases d with
  | none => simp [dstB]
  | some u => simp only [dstB, pow_test, decide_eq_true_eq, Option.some.injEq]
theorem adB_test {all : Array Oper} {t : Nat} : ∀ {l : List Nat}, (adB all l).testBit t = true ↔ ∃ j ∈ l, ((all[j]?).bind fun o => o.dst) = some t
  | [] => by simp [adB, lfold_nil]
  | a :: l => by
    have ih := adB_test (all := all) (t := t) (l := l)
    unfold adB at ih ⊢
    rw [lfold_cons, lor_test, Bool.or_eq_true, ih, dstB_test]
    simp
theorem laterB_test {b t : Nat} : ∀ {l : List Rg}, (laterB l b).testBit t = true → ∃ s ∈ l, Nat.land s.af b ≠ 0 ∧ s.d.testBit t = true
  | [], h => by simp [laterB, lfold_nil] at h
  | s :: l, h => by
    have e : laterB (s :: l) b = bif Nat.beq (Nat.land s.af b) 0 then laterB l b else Nat.lor s.d (laterB l b) := rfl
    rw [e] at h
    cases hb : Nat.beq (Nat.land s.af b) 0 with
    | true =>
      rw [hb] at h
      obtain ⟨r, h1, h2⟩ := laterB_test (l := l) h
      exact ⟨r, List.mem_cons_of_mem _ h1, h2⟩
    | false =>
      rw [hb] at h
      simp only [cond_false, lor_test, Bool.or_eq_true] at h
      rcases h with h | h
      · exact ⟨s, List.mem_cons_self, beq_false.1 hb, h⟩
      · obtain ⟨r, h1, h2⟩ := laterB_test (l := l) h
        exact ⟨r, List.mem_cons_of_mem _ h1, h2⟩
theorem lookB_ok {l : List Rg} {D : Nat} {r : Rg} (h : lookB l D r = true) {t : Nat} (h1 : r.lk.testBit t = true) (h2 : D.testBit t = true) : r.ad.testBit t = true ∨ r.d.testBit t = true ∨ (laterB l r.b).testBit t = true := by
  unfold lookB at h
  simp only at h
  have hx : (Nat.land r.lk D).testBit t = true := by rw [land_test, h1, h2]; rfl
  cases hb : Nat.beq (Nat.land (Nat.land r.lk D) r.ad) (Nat.land r.lk D) with
  | true => exact .inl (land_sub.1 hb t hx)
  | false =>
    rw [hb] at h
    have h3 := land_sub.1 h t hx
    simp only [lor_test, Bool.or_eq_true] at h3
    rcases h3 with (h3 | h3) | h3
    · exact .inl h3
    · exact .inr (.inl h3)
    · exact .inr (.inr h3)
theorem ssaB_ok {all : Array Oper} (h : ssaB (prep all) = true) : Ssa all := by
  unfold ssaB at h
  cases hd : disjB (prep all) with
  | false => simp [hd] at h
  | true =>
    simp only [hd, cond_true] at h
    rw [allB_iff] at h
    have hdst : ∀ (i j : Nat) (oi oj : Oper) (t : Nat), all[i]? = some oi → all[j]? = some oj → oi.dst = some t → oj.dst = some t → i = j := by
      intro i j oi oj t hi hj h1 h2
      have gi : (prep all)[i]? = some (rgOf all i oi) := by rw [prep_get, hi]; rfl
      have gj : (prep all)[j]? = some (rgOf all j oj) := by rw [prep_get, hj]; rfl
      have ti : (rgOf all i oi).d.testBit t = true := dstB_test.2 h1
      have tj : (rgOf all j oj).d.testBit t = true := dstB_test.2 h2
      rcases Nat.lt_trichotomy i j with hlt | heq | hgt
      · exact (disjB_ok hd hlt gi gj t ti tj).elim
      · exact heq
      · exact (disjB_ok hd hgt gj gi t tj ti).elim
    refine ⟨hdst, fun i x oi ox t hi hx hl ht => ?_, fun j o cs b hj e => ?_⟩
    · have hm : rgOf all i oi ∈ prep all := prep_mem.2 ⟨i, oi, hi, rfl⟩
      have h1 := h _ hm
      cases hn : noSel (rgOf all i oi).o.op with
      | false => rw [hn] at h1; cases h1
      | true =>
        rw [hn] at h1
        simp only [cond_true] at h1
        have hD := rdB_test (r := rgOf all x ox) (dstB_test.2 ht) (prep_mem.2 ⟨x, ox, hx, rfl⟩)
        rcases lookB_ok h1 ((bitsL_test t _).2 hl) hD with h2 | h2 | h2
        · obtain ⟨j, hj, hjt⟩ := adB_test.1 h2
          rw [Option.bind_eq_some_iff] at hjt
          obtain ⟨oj, hoj, hjd⟩ := hjt
          have := hdst j x oj ox t hoj hx hjd ht
          subst this
          exact .inl (mem_aheads.1 hj)
        · exact .inr (.inr (hdst x i ox oi t hx hi ht (dstB_test.1 h2)))
        · obtain ⟨s, hs, h3, h4⟩ := laterB_test h2
          obtain ⟨k, ok, hok, rfl⟩ := prep_mem.1 hs
          have := hdst k x ok ox t hok hx (dstB_test.1 h4) ht
          subst this
          refine .inr (.inl ?_)
          rw [hx] at hok
          cases hok
          have h5 : (rgOf all k ox).af.testBit i = true := by
            cases hb : (rgOf all k ox).af.testBit i with
            | true => rfl
            | false =>
              refine absurd (Nat.eq_of_testBit_eq fun u => ?_) h3
              rw [land_test, Nat.zero_testBit]
              show ((rgOf all k ox).af.testBit u && (Nat.pow 2 i).testBit u) = false
              rw [pow_test]
              by_cases e : i = u
              · subst e; rw [hb]; rfl
              · simp [e]
          exact mem_aheads.1 ((bitsL_test i _).1 h5)
    · have h1 := h _ (prep_mem.2 ⟨j, o, hj, rfl⟩)
      have : noSel (rgOf all j o).o.op = false := by show noSel o.op = false; rw [e]; rfl
      rw [this] at h1; cases h1
theorem Ssa.free {all : Array Oper} (h : Ssa all) {i : Nat} {oi : Oper} (hi : all[i]? = some oi) {listed : Array Bool} (hr : i ∈ Region.ready .any all listed) (j : Nat) (oj : Oper)
    (hj : all[j]? = some oj) (hne : j ≠ i) (hun : listed.getD j true = false) (hno : ∀ e ∈ oj.after, Region.binds .any e = true → e.on ≠ i) : oi.apart all oj = true := by
  have late : ∀ e ∈ oi.after, Region.binds .any e = true → e.on = j → False := by
    intro e h1 h2 h3
    obtain ⟨_, o', ho', hall⟩ := mem_ready.1 hr
    rw [hi] at ho'
    cases ho'
    have h4 := hall e h1 h2
    rw [h3] at h4
    rcases Nat.lt_or_ge j listed.size with h' | h'
    · simp [h'] at hun h4; rw [hun] at h4; cases h4
    · simp [Array.getElem?_eq_none h'] at h4
  have p1 : ∀ d, oi.dst = some d → d ∉ oj.looksAt all := by
    intro d hd hl
    rcases h.look j i oj oi d hj hi hl hd with ⟨e, h1, h2, h3⟩ | ⟨e, h1, h2, h3⟩ | h1
    · exact hno e h1 h2 h3
    · exact late e h1 h2 h3
    · exact hne h1.symm
  have p2 : ∀ d, oi.dst = some d → oj.dst ≠ some d := fun d hd hj2 => hne (h.dst j i oj oi d hj hi hj2 hd)
  have p3 : ∀ d, oj.dst = some d → d ∉ oi.looksAt all := by
    intro d hd hl
    rcases h.look i j oi oj d hi hj hl hd with ⟨e, h1, h2, h3⟩ | ⟨e, h1, h2, h3⟩ | h1
    · exact late e h1 h2 h3
    · exact hno e h1 h2 h3
    · exact hne h1
  unfold Oper.apart
  cases hx : oi.dst with
  | none =>
    cases hy : oj.dst with
    | none => rfl
    | some d => simp [p3 d hy]
  | some c =>
    have q1 := p1 c hx
    have q2 := p2 c hx
    cases hy : oj.dst with
    | none => simp [q1]
    | some d =>
      rw [hy] at q2
      have : d ≠ c := fun e => q2 (by rw [e])
      simp [q1, p3 d hy, this]

theorem wnt_fork_wanted {all : Array Oper} {o : Oper} {fr : List (Nat × SV)} {x : X} {d : Nat} {want : Bool} (h : wnt all o fr = some (.fork x d want)) {ρ : Env} {σ : Pl} {n : Nat} {a : Act} (hf : FrOk ρ σ fr n a) :
    Region.wanted o (yielded all a.tmps) = ((x.den ρ).asB == want) := by
  obtain ⟨j, hg, hd, hx⟩ := wnt_fork h
  have h1 : a.tmps.getD d undef = .bool (x.den ρ).asB := hf.get d _ hx
  have hget : a.tmps[d]? = some (.bool (x.den ρ).asB) := by
    rw [Array.getD_eq_getD_getElem?] at h1
    cases hq : a.tmps[d]? with
    | none => rw [hq] at h1; simp [undef] at h1
    | some q => rw [hq] at h1; simp at h1; rw [h1]
  unfold Region.wanted
  simp only [hg, yielded, hd, Option.bind_some, hget]
  cases (x.den ρ).asB <;> cases want <;> rfl
theorem litB_known {fs : List Fact} {x : X} {b : Bool} (h : known fs (litB x b) = true) (ρ : Env) (hf : ∀ f ∈ fs, f.ok ρ) : (x.den ρ).asB = b := by
  have h1 := known_ok h ρ hf
  unfold litB at h1
  cases b with
  | true => exact h1
  | false => simp only [cond_false, mNot_den, Bool.not_eq_true'] at h1; exact h1
theorem wntD_yes {fs : List Fact} {all : Array Oper} {o : Oper} {fr : List (Nat × SV)} (h : wntD fs all o fr = some .yes) {ρ : Env} {σ : Pl} {n : Nat} {a : Act} (hf : FrOk ρ σ fr n a) (hs : ∀ f ∈ fs, f.ok ρ) : Region.wanted o (yielded all a.tmps) = true := by
  unfold wntD at h
  split at h
  · rename_i x d want hw
    rw [wnt_fork_wanted hw hf]
    cases h1 : known fs (litB x want) with
    | true => rw [litB_known h1 ρ hs]; simp
    | false =>
      simp only [h1, cond_false] at h
      cases h2 : known fs (litB x (!want)) <;> simp [h2] at h
  · exact wnt_yes h hf
theorem wntD_no {fs : List Fact} {all : Array Oper} {o : Oper} {fr : List (Nat × SV)} (h : wntD fs all o fr = some .no) {ρ : Env} {σ : Pl} {n : Nat} {a : Act} (hf : FrOk ρ σ fr n a) (hs : ∀ f ∈ fs, f.ok ρ) : Region.wanted o (yielded all a.tmps) = false := by
  unfold wntD at h
  split at h
  · rename_i x d want hw
    rw [wnt_fork_wanted hw hf]
    cases h1 : known fs (litB x want) with
    | true => simp [h1] at h
    | false =>
      simp only [h1, cond_false] at h
      cases h2 : known fs (litB x (!want)) with
      | true => rw [litB_known h2 ρ hs]; cases want <;> rfl
      | false => simp [h2] at h
  · exact wnt_no h hf

theorem stepD_ok {C : Ctx} (hC : CtxOk P w0.i C) {cf : CallF} (hcf : CfOk P w0.i C cf) {all : Array Oper} {i : Nat} {o : Oper} (ho : all[i]? = some o) {st s : St} {ob : List Obl} (e : stepD C cf all i o st = some (ob, s)) (hob : ∀ o ∈ ob, o.ok w0)
    {B : Nat} {ρ : Env} {σ : Pl} {a : Act} {w : World} (hr : HRep w0 B ρ σ st.h w) (hf : FRep ρ σ st.h st.fr st.n a) {K : Act → World → Prop} {Q : Exit → Act → World → Prop}
    (hp : Post w0 B ρ σ st.h s K) : wpOp P all Q i K a w := by
  unfold stepD at e
  unfold wpOp
  simp only [ho]
  split at e
  · rename_i hw
    rw [if_pos (wntD_yes hw hf.now hr.now.facts)]
    split at e
    · rename_i ob' s' hs
      simp only [Option.some.injEq, Prod.mk.injEq] at e
      obtain ⟨rfl, rfl⟩ := e
      refine .inl (stepO_ok hC hcf hs hob hr hf fun s2 hs2 => ?_)
      simp only [List.mem_singleton] at hs2
      subst hs2; exact hp
    · cases e
  · rename_i hw
    rw [if_neg (by simp [wntD_no hw hf.now hr.now.facts])]
    rw [Option.map_eq_some_iff] at e
    obtain ⟨s', hs', e⟩ := e
    cases e
    obtain ⟨e1, e2⟩ := putS_undef hs' hf
    exact hp ρ σ _ _ (Ext.refl _ _ _) (by rw [e1]; exact H.le.refl _) (by rw [e1]; exact hr) e2
  · cases e
theorem litK_ok {fs : List Fact} {ρ : Env} (hf : ∀ f ∈ fs, f.ok ρ) (σ : Pl) (v : SV) : (litK fs v).val ρ σ = v.val ρ σ := by
  unfold litK
  split
  · rfl
  · rename_i x _
    cases h1 : known fs x with
    | true => simp only [cond_true, SV.val, X.den, asB_b, known_ok h1 ρ hf]
    | false =>
      simp only [cond_false]
      cases h2 : known fs (mNot x) with
      | true =>
        have := known_ok h2 ρ hf
        rw [mNot_den, Bool.not_eq_true'] at this
        simp only [cond_true, SV.val, X.den, asB_b, this]
      | false => rfl
  · rfl
theorem stepP_ok {C : Ctx} (hC : CtxOk P w0.i C) {all : Array Oper} {o : Oper} {st s : St} {ob : List Obl} (e : stepP C all o st = some (ob, s)) (hob : ∀ o ∈ ob, o.ok w0)
    {B : Nat} {ρ : Env} {σ : Pl} {a : Act} {w : World} (hr : HRep w0 B ρ σ st.h w) (hf : FRep ρ σ st.h st.fr st.n a) :
    ∃ v, Yields P all o v a ∧ s.h = st.h ∧ FRep ρ σ s.h s.fr s.n (a.put o.dst v) := by
  unfold stepP at e
  split at e
  · rename_i hw
    obtain ⟨q, hq, e⟩ := bind1 e
    rw [Option.map_eq_some_iff] at e
    obtain ⟨s', hs', e⟩ := e
    simp only [Prod.mk.injEq] at e
    obtain ⟨rfl, rfl⟩ := e
    have hg := obls_ok (fs := st.h.fs) (l := q.1) hob
    have run : ∀ ρ₁ σ₁, Ext st.h ρ ρ₁ σ σ₁ → ∀ w, (execOp a.eval o).run P w = .ok (.value (q.2.val ρ₁ σ₁)) w := fun ρ₁ σ₁ he w =>
      pureOp_ok hC.tt (fun x s hs => ev_ok (hf _ _ he) hs) hq w (hg ρ₁ (hr _ _ he).ip (hr _ _ he).facts)
    have h0 := run ρ σ (Ext.refl _ _ _)
    obtain ⟨e1, e2⟩ := putS_val hs' hf (v := q.2.val ρ σ) (fun ρ₁ σ₁ he => by
      have h1 := run ρ₁ σ₁ he w
      rw [h0 w] at h1
      simp only [Result.ok.injEq, Next.value.injEq, and_true] at h1
      simp [litK_ok (hr _ _ he).facts, h1])
    exact ⟨_, .inl ⟨wntD_yes hw hf.now hr.now.facts, h0⟩, e1, e2⟩
  · rename_i hw
    rw [Option.map_eq_some_iff] at e
    obtain ⟨s', hs', e⟩ := e
    cases e
    obtain ⟨e1, e2⟩ := putS_undef hs' hf
    exact ⟨undef, .inr ⟨by simp [wntD_no hw hf.now hr.now.facts], rfl⟩, e1, e2⟩
  · cases e
theorem firstP_mem {C : Ctx} {all : Array Oper} {st : St} : ∀ {l : List Rg} {q : Rg × List Obl × St}, firstP C all st l = some q → q.1 ∈ l ∧ stepP C all q.1.o st = some q.2
  | [], q, e => by cases e
  | r :: l, q, e => by
    simp only [firstP] at e
    split at e
    · rename_i p hp
      cases e
      exact ⟨List.mem_cons_self, hp⟩
    · obtain ⟨h1, h2⟩ := firstP_mem e
      exact ⟨List.mem_cons_of_mem _ h1, h2⟩

theorem insL_mem {m : Nat} {st : St} : ∀ {l r : List (Nat × St)}, insL m st l = some r → (m, st) ∈ r ∧ ∀ x ∈ l, x ∈ r
  | [], r, h => by simp only [insL, Option.some.injEq] at h; subst h; simp
  | (k, s) :: l, r, h => by
    simp only [insL] at h
    cases hb : Nat.beq k m with
    | true =>
      simp only [hb, cond_true] at h
      cases hs : Steq s st with
      | false => simp [hs] at h
      | true =>
        simp only [hs, cond_true, Option.some.injEq] at h
        subst h
        have := Steq_eq _ _ hs
        have hk := beq_true.1 hb
        subst this hk
        exact ⟨List.mem_cons_self, fun x hx => hx⟩
    | false =>
      simp only [hb, cond_false] at h
      rw [Option.map_eq_some_iff] at h
      obtain ⟨r', hr', h⟩ := h
      subst h
      obtain ⟨h1, h2⟩ := insL_mem hr'
      refine ⟨List.mem_cons_of_mem _ h1, fun x hx => ?_⟩
      simp only [List.mem_cons] at hx ⊢
      rcases hx with rfl | hx
      · exact .inl rfl
      · exact .inr (h2 x hx)
theorem stepL_mem {C : Ctx} {cf : CallF} {all : Array Oper} {mask : Nat} {st : St} : ∀ {l : List Rg} {acc r : List (Nat × St)} {ob : List Obl}, stepL C cf all mask st l acc = some (ob, r) →
    (∀ x ∈ acc, x ∈ r) ∧ ∀ i ∈ l, ∃ ob' s, stepD C cf all i.i i.o st = some (ob', s) ∧ (∀ o ∈ ob', o ∈ ob) ∧ (Nat.lor mask i.b, s) ∈ r
  | [], acc, r, ob, h => by simp only [stepL, Option.some.injEq, Prod.mk.injEq] at h; obtain ⟨_, rfl⟩ := h; exact ⟨fun x hx => hx, by simp⟩
  | i :: l, acc, r, ob, h => by
    simp only [stepL] at h
    obtain ⟨q, hq, h⟩ := bind1 h
    obtain ⟨acc', ha, h⟩ := bind1 h
    rw [Option.map_eq_some_iff] at h
    obtain ⟨t, ht, h⟩ := h
    cases h
    obtain ⟨h1, h2⟩ := insL_mem ha
    obtain ⟨h3, h4⟩ := stepL_mem (ob := t.1) (r := t.2) ht
    refine ⟨fun x hx => h3 x (h2 x hx), fun j hj => ?_⟩
    simp only [List.mem_cons] at hj
    rcases hj with rfl | hj
    · exact ⟨q.1, q.2, hq, fun o ho => List.mem_append_left _ ho, h3 _ h1⟩
    · obtain ⟨ob', s, h5, h6, h7⟩ := h4 j hj
      exact ⟨ob', s, h5, fun o ho => List.mem_append_right _ (h6 o ho), h7⟩
/-- what is known of a state with all its steps. -/
def Stepped (C : Ctx) (cf : CallF) (all : Array Oper) (pre : List Rg) (sf : Bool) (p : Nat × St) (ob : List Obl) (r : List (Nat × St)) : Prop :=
  (sf = true ∧ ∃ q ∈ readyP pre p.1, ∃ ob' s, stepP C all q.o p.2 = some (ob', s) ∧ (∀ o ∈ ob', o ∈ ob) ∧ (Nat.lor p.1 q.b, s) ∈ r) ∨
  ∀ i ∈ readyP pre p.1, ∃ ob' s, stepD C cf all i.i i.o p.2 = some (ob', s) ∧ (∀ o ∈ ob', o ∈ ob) ∧ (Nat.lor p.1 i.b, s) ∈ r
theorem Stepped.mono {C : Ctx} {cf : CallF} {all : Array Oper} {pre : List Rg} {sf : Bool} {p : Nat × St} {ob ob2 : List Obl} {r r2 : List (Nat × St)} (h : Stepped C cf all pre sf p ob r) (h1 : ∀ o ∈ ob, o ∈ ob2) (h2 : ∀ x ∈ r, x ∈ r2) : Stepped C cf all pre sf p ob2 r2 := by
  rcases h with ⟨h0, q, hq, ob', s, h3, h4, h5⟩ | h
  · exact .inl ⟨h0, q, hq, ob', s, h3, fun o ho => h1 o (h4 o ho), h2 _ h5⟩
  · refine .inr fun i hi => ?_
    obtain ⟨ob', s, h3, h4, h5⟩ := h i hi
    exact ⟨ob', s, h3, fun o ho => h1 o (h4 o ho), h2 _ h5⟩
theorem stepAll_mem {C : Ctx} {cf : CallF} {all : Array Oper} {pre : List Rg} {sf : Bool} : ∀ {l acc r : List (Nat × St)} {ob : List Obl}, stepAll C cf all pre sf l acc = some (ob, r) →
    (∀ x ∈ acc, x ∈ r) ∧ ∀ p ∈ l, readyP pre p.1 ≠ [] ∧ Stepped C cf all pre sf p ob r
  | [], acc, r, ob, h => by simp only [stepAll, Option.some.injEq, Prod.mk.injEq] at h; obtain ⟨_, rfl⟩ := h; exact ⟨fun x hx => hx, by simp⟩
  | (m, st) :: l, acc, r, ob, h => by
    simp only [stepAll] at h
    split at h
    · cases h
    · rename_i hne
      split at h
      · rename_i q hq
        obtain ⟨hsf, hq⟩ := bndo hq
        obtain ⟨hq1, hq2⟩ := firstP_mem hq
        obtain ⟨acc', ha, h⟩ := bind1 h
        rw [Option.map_eq_some_iff] at h
        obtain ⟨t, ht, h⟩ := h
        cases h
        obtain ⟨h1, h2⟩ := insL_mem ha
        obtain ⟨h3, h4⟩ := stepAll_mem (ob := t.1) (r := t.2) ht
        refine ⟨fun x hx => h3 x (h2 x hx), fun p hp => ?_⟩
        simp only [List.mem_cons] at hp
        rcases hp with rfl | hp
        · exact ⟨fun e => hne e, .inl ⟨hsf, q.1, hq1, q.2.1, q.2.2, hq2, fun o ho => List.mem_append_left _ ho, h3 _ h1⟩⟩
        · exact ⟨(h4 p hp).1, (h4 p hp).2.mono (fun o ho => List.mem_append_right _ ho) fun _ h => h⟩
      · obtain ⟨q, hq, h⟩ := bind1 h
        rw [Option.map_eq_some_iff] at h
        obtain ⟨t, ht, h⟩ := h
        cases h
        obtain ⟨h1, h2⟩ := stepL_mem (ob := q.1) (r := q.2) hq
        obtain ⟨h3, h4⟩ := stepAll_mem (ob := t.1) (r := t.2) ht
        refine ⟨fun x hx => h3 x (h1 x hx), fun p hp => ?_⟩
        simp only [List.mem_cons] at hp
        rcases hp with rfl | hp
        · refine ⟨fun e => hne e, .inr fun i hi => ?_⟩
          obtain ⟨ob', s, h5, h6, h7⟩ := h2 i hi
          exact ⟨ob', s, h5, fun o ho => List.mem_append_left _ (h6 o ho), h3 _ h7⟩
        · exact ⟨(h4 p hp).1, (h4 p hp).2.mono (fun o ho => List.mem_append_right _ ho) fun _ h => h⟩

/-- The two ways to say which have been done. -/
def Lm (all : Array Oper) (listed : Array Bool) (m : Nat) : Prop := listed.size = all.size ∧ ∀ i, listed.getD i false = m.testBit i
theorem Lm.ready {all : Array Oper} {listed : Array Bool} {m : Nat} (h : Lm all listed m) {i : Nat} : i ∈ Region.ready .any all listed ↔ ∃ o, all[i]? = some o ∧ rgOf all i o ∈ readyP (prep all) m := by
  rw [mem_ready]
  constructor
  · rintro ⟨h0, o, ho, hall⟩
    refine ⟨o, ho, ?_⟩
    unfold readyP
    rw [filB_eq, List.mem_filter]
    refine ⟨prep_mem.2 ⟨i, o, ho, rfl⟩, ?_⟩
    have hlt : i < listed.size := by rw [h.1]; exact (Array.getElem?_eq_some_iff.1 ho).1
    have h1 : m.testBit i = false := by
      rw [← h.2 i]
      simp only [Array.getD_eq_getD_getElem?, Array.getElem?_eq_getElem hlt, Option.getD_some] at h0 ⊢
      exact h0
    have h2 : Nat.beq (Nat.land (rgOf all i o).b m) 0 = true := land_zero.2 h1
    rw [h2]
    refine land_sub.2 fun t ht => ?_
    obtain ⟨e, e1, e2, e3⟩ := mem_aheads.1 ((bitsL_test t _).1 ht)
    rw [← h.2 t, ← e3]
    exact hall e e1 e2
  · rintro ⟨o, ho, hr⟩
    unfold readyP at hr
    rw [filB_eq, List.mem_filter] at hr
    obtain ⟨_, hr⟩ := hr
    cases h2 : Nat.beq (Nat.land (rgOf all i o).b m) 0 with
    | false => rw [h2] at hr; cases hr
    | true =>
      rw [h2] at hr
      simp only [cond_true] at hr
      have hlt : i < listed.size := by rw [h.1]; exact (Array.getElem?_eq_some_iff.1 ho).1
      have h1 := land_zero.1 h2
      refine ⟨?_, o, ho, fun e e1 e2 => ?_⟩
      · rw [← h.2 i] at h1
        simp only [Array.getD_eq_getD_getElem?, Array.getElem?_eq_getElem hlt, Option.getD_some] at h1 ⊢
        exact h1
      · rw [h.2]
        exact land_sub.1 hr _ ((bitsL_test _ _).2 (mem_aheads.2 ⟨e, e1, e2, rfl⟩))
theorem Lm.none {all : Array Oper} {listed : Array Bool} {m : Nat} (h : Lm all listed m) : Region.ready .any all listed = [] ↔ readyP (prep all) m = [] := by
  constructor
  · intro e
    cases hr : readyP (prep all) m with
    | nil => rfl
    | cons r l =>
      have h1 : r ∈ readyP (prep all) m := by rw [hr]; exact List.mem_cons_self
      have h2 := h1
      unfold readyP at h1
      rw [filB_eq, List.mem_filter] at h1
      obtain ⟨i, o, ho, rfl⟩ := prep_mem.1 h1.1
      have := h.ready.2 ⟨o, ho, h2⟩
      rw [e] at this; cases this
  · intro e
    cases hr : Region.ready .any all listed with
    | nil => rfl
    | cons i l =>
      obtain ⟨o, _, h2⟩ := h.ready.1 (show i ∈ Region.ready .any all listed by rw [hr]; exact List.mem_cons_self)
      rw [e] at h2; cases h2
theorem Lm.set {all : Array Oper} {listed : Array Bool} {m i : Nat} (h : Lm all listed m) (hi : i < all.size) : Lm all (listed.setIfInBounds i true) (Nat.lor m (Nat.pow 2 i)) := by
  show Lm all (listed.setIfInBounds i true) (m ||| 2 ^ i)
  refine ⟨by simp [h.1], fun j => ?_⟩
  rw [testBit_or_pow, ← h.2 j]
  simp only [Array.getD_eq_getD_getElem?, Array.getElem?_setIfInBounds]
  by_cases e : i = j
  · subst e; simp [h.1, hi]
  · simp [e]

theorem dpRun_ok {C : Ctx} (hC : CtxOk P w0.i C) {cf : CallF} (hcf : CfOk P w0.i C cf) {all : Array Oper} {stF : St} {sf : Bool} (hsf : sf = true → Ssa all) : ∀ {f : Nat} {l : List (Nat × St)} {ob : List Obl}, dpRun C cf all (prep all) sf f l = some (ob, stF) → (∀ o ∈ ob, o.ok w0) →
    ∀ p ∈ l, ∀ listed, Lm all listed p.1 → ∀ {B : Nat} {ρ : Env} {σ : Pl} {a : Act} {w : World}, HRep w0 B ρ σ p.2.h w → FRep ρ σ p.2.h p.2.fr p.2.n a → ∀ {Q : Exit → Act → World → Prop}, (∀ c a w, ¬ Q (.panic c) a w) →
    Post w0 B ρ σ p.2.h stF (Q .normal) → wpAny P .any all Q f listed a w
  | 0, l, ob, e, hob, p, hp, listed, hl, B, ρ, σ, a, w, hr, hf, Q, hQ, hpost => by
    unfold dpRun at e
    split at e
    · rename_i m st _
      split at e
      · rename_i hready
        simp only [Option.some.injEq, Prod.mk.injEq] at e
        obtain ⟨_, rfl⟩ := e
        simp only [List.mem_singleton] at hp
        subst hp
        refine ⟨hl.none.2 hready, hpost ρ σ a w (Ext.refl _ _ _) (H.le.refl _) hr hf⟩
      · cases e
    · cases e
    · rename_i hx; simp at hx
  | f + 1, l, ob, e, hob, p, hp, listed, hl, B, ρ, σ, a, w, hr, hf, Q, hQ, hpost => by
    simp only [dpRun] at e
    obtain ⟨q, hq, e⟩ := bind1 e
    rw [Option.map_eq_some_iff] at e
    obtain ⟨t, ht, e⟩ := e
    simp only [Prod.mk.injEq] at e
    obtain ⟨rfl, rfl⟩ := e
    obtain ⟨_, h4⟩ := stepAll_mem (ob := q.1) (r := q.2) hq
    obtain ⟨hne, hst⟩ := h4 p hp
    have ofReady : ∀ r ∈ readyP (prep all) p.1, ∃ i o, all[i]? = some o ∧ r = rgOf all i o ∧ i ∈ Region.ready .any all listed := by
      intro r hr
      have h2 := hr
      unfold readyP at hr
      rw [filB_eq, List.mem_filter] at hr
      obtain ⟨i, o, ho, rfl⟩ := prep_mem.1 hr.1
      exact ⟨i, o, ho, rfl, hl.ready.2 ⟨o, ho, h2⟩⟩
    rcases hst with ⟨h0, r, hrr, ob', s, h5, h6, h7⟩ | hst
    · obtain ⟨i, o, ho, rfl, hir⟩ := ofReady r hrr
      have hlt : i < all.size := (Array.getElem?_eq_some_iff.1 ho).1
      obtain ⟨v, hy, e1, e2⟩ := stepP_ok hC h5 (fun o ho => hob o (List.mem_append_left _ (h6 o ho))) hr hf
      have hs := hsf h0
      refine wpAny_first ho hs.sel (fun c a w h => (hQ _ _ _ h).elim) f listed a w (fun j oj hj hne hun hno => hs.free ho hir j oj hj hne hun hno) hir hy ?_
      exact dpRun_ok hC hcf hsf (ob := t.1) ht (fun o ho => hob o (List.mem_append_right _ ho)) (Nat.lor p.1 (rgOf all i o).b, s) h7 _ (hl.set hlt) (by rw [e1]; exact hr) e2 hQ (hpost.from (h' := s.h) (Ext.refl _ _ _) (by rw [e1]; exact H.le.refl _))
    · refine ⟨fun hx => absurd (hl.none.1 hx) hne, fun i hi => ?_⟩
      obtain ⟨o, ho, hrr⟩ := hl.ready.1 hi
      obtain ⟨ob', s, h5, h6, h7⟩ := hst _ hrr
      have hlt : i < all.size := (Array.getElem?_eq_some_iff.1 ho).1
      refine stepD_ok hC hcf ho h5 (fun o ho => hob o (List.mem_append_left _ (h6 o ho))) hr hf ?_
      intro ρ' σ' a' w' he hle hr' hf'
      exact dpRun_ok hC hcf hsf (ob := t.1) ht (fun o ho => hob o (List.mem_append_right _ ho)) (Nat.lor p.1 (rgOf all i o).b, s) h7 _ (hl.set hlt) hr' hf' hQ (hpost.from he hle)

theorem settleD_le {n : Nat} {st : St} (h1 : st.h.xb < 2 ^ n) (h2 : st.h.xv < 2 ^ n) : st.h.le (settleD n st).h := by
  refine ⟨fun i hi => .inl ?_, fun i hi => .inl ?_⟩
  · show i < st.h.nv + n
    rcases hi with hi | ⟨h3, h4⟩
    · omega
    · rcases Nat.lt_or_ge (i - st.h.nv) n with hlt | hge
      · omega
      · rw [Nat.testBit_lt_two_pow (Nat.lt_of_lt_of_le h2 (Nat.pow_le_pow_right (by omega) hge))] at h4; cases h4
  · show i < st.h.nb + n
    rcases hi with hi | ⟨h3, h4⟩
    · omega
    · rcases Nat.lt_or_ge (i - st.h.nb) n with hlt | hge
      · omega
      · rw [Nat.testBit_lt_two_pow (Nat.lt_of_lt_of_le h1 (Nat.pow_le_pow_right (by omega) hge))] at h4; cases h4
theorem HRep.drew {B : Nat} {ρ : Env} {σ : Pl} {h : H} {w : World} (r : HRep w0 B ρ σ h w) : HRep w0 B ρ σ h { w with drawn := w.drawn + 1 } := by
  intro ρ' σ' he
  have h1 := r _ _ he
  refine ⟨h1.ip, h1.lay, h1.below.drew, h1.size, fun b k hk => ?_, h1.apart, h1.facts⟩
  exact (h1.blk b k hk).congr rfl

theorem execDraw_ok {C : Ctx} (hC : CtxOk P w0.i C) {cf : CallF} (hcf : CfOk P w0.i C cf) {all : Array Oper} {st : St} {ob : List Obl} {sts : List St} (e : execDraw C cf all st = some (ob, sts)) (hob : ∀ o ∈ ob, o.ok w0)
    {B : Nat} {ρ : Env} {σ : Pl} {a : Act} {w : World} (hr : HRep w0 B ρ σ st.h w) (hf : FRep ρ σ st.h st.fr st.n a) {Q : Exit → Act → World → Prop}
    (hp : ∀ s ∈ sts, Post w0 B ρ σ st.h s (Q .normal)) (id : Nat) : (Code.region id all true).wp P Q a w := by
  unfold execDraw at e
  obtain ⟨q, hq, e⟩ := bind1 e
  cases hb : (Nat.blt q.2.h.xb (2 ^ all.size) && Nat.blt q.2.h.xv (2 ^ all.size)) with
  | false => simp [hb] at e
  | true =>
    simp only [hb, cond_true, Option.some.injEq, Prod.mk.injEq] at e
    obtain ⟨rfl, rfl⟩ := e
    simp only [Bool.and_eq_true, Nat.blt_eq] at hb
    have hp1 := hp _ List.mem_cons_self
    have hle := settleD_le hb.1 hb.2
    let Q' : Exit → Act → World → Prop := fun e a w => match e with
      | .panic _ => False
      | e => Q e a w
    refine wp_mono (Q := Q') ?_ (fun e a w h => by cases e <;> first | exact h | exact h.elim)
    refine wp_region_any hC.mo ?_
    refine dpRun_ok hC hcf (sf := ssaB (prep all)) ssaB_ok (ob := q.1) (stF := q.2) hq hob (0, st) List.mem_cons_self _ ⟨by simp, fun i => ?_⟩ hr.drew hf (fun c a w h => h) ?_
    · simp only [Array.getD_eq_getD_getElem?, Array.getElem?_replicate]
      split <;> simp
    · intro ρ' σ' a' w' he hl hr' hf'
      refine hp1 ρ' σ' a' w' he (hl.trans hle) ?_ (hf'.ext (Ext.refl _ _ _) hle)
      intro ρ₁ σ₁ he1
      have h1 := hr' _ _ (he1.of_le hle)
      exact ⟨h1.ip, h1.lay, h1.below, h1.size, h1.blk, h1.apart, h1.facts⟩

theorem splitD_ok {run : St → Option (List Obl × List St)} {M : (Exit → Act → World → Prop) → Act → World → Prop}
    (hrun : ∀ (st : St) (ob : List Obl) (sts : List St), run st = some (ob, sts) → (∀ o ∈ ob, o.ok w0) → ∀ {B : Nat} {ρ : Env} {σ : Pl} {a : Act} {w : World}, HRep w0 B ρ σ st.h w → FRep ρ σ st.h st.fr st.n a →
      ∀ {Q : Exit → Act → World → Prop}, (∀ s ∈ sts, Post w0 B ρ σ st.h s (Q .normal)) → M Q a w) :
    ∀ {l : List X} {st : St} {ob : List Obl} {sts : List St}, splitD run l st = some (ob, sts) → (∀ o ∈ ob, o.ok w0) → ∀ {B : Nat} {ρ : Env} {σ : Pl} {a : Act} {w : World}, HRep w0 B ρ σ st.h w → FRep ρ σ st.h st.fr st.n a →
      ∀ {Q : Exit → Act → World → Prop}, (∀ s ∈ sts, Post w0 B ρ σ st.h s (Q .normal)) → M Q a w
  | [], st, ob, sts, e, hob, B, ρ, σ, a, w, hr, hf, Q, hp => hrun st ob sts e hob hr hf hp
  | x :: l, st, ob, sts, e, hob, B, ρ, σ, a, w, hr, hf, Q, hp => by
    simp only [splitD] at e
    obtain ⟨hv, e⟩ := bndo e
    obtain ⟨o1, t1, o2, t2, ea, eb, ho1, ho2, ht1, ht2⟩ := both_mem e
    have hsame : ∀ ρ₁ σ₁, Ext st.h ρ ρ₁ σ σ₁ → (x.den ρ₁).asB = (x.den ρ).asB := fun ρ₁ σ₁ he => by
      rw [X.den_vs (p := st.h.alVb) he.f (fun i hi => he.v i (H.alVb_iff.1 hi)) hv]
    cases hb : (x.den ρ).asB with
    | true =>
      refine splitD_ok hrun ea (fun o ho => hob o (ho1 o ho)) (assume_rep hr fun ρ₁ σ₁ he => by rw [hsame _ _ he, hb]) (hf.ext (Ext.refl _ _ _) ⟨fun _ h => h, fun _ h => h⟩) ?_
      exact fun s hs => (hp s (ht1 s hs)).from (h' := (assume x true st).h) (Ext.refl _ _ _) ⟨fun _ h => h, fun _ h => h⟩
    | false =>
      refine splitD_ok hrun eb (fun o ho => hob o (ho2 o ho)) (assume_rep hr fun ρ₁ σ₁ he => by rw [hsame _ _ he, hb]) (hf.ext (Ext.refl _ _ _) ⟨fun _ h => h, fun _ h => h⟩) ?_
      exact fun s hs => (hp s (ht2 s hs)).from (h' := (assume x false st).h) (Ext.refl _ _ _) ⟨fun _ h => h, fun _ h => h⟩
def Ex.to : Ex → Exit
  | .nor => .normal
  | .exit id => .exit id
  | .ret => .ret
/-- what a piece of code must serve for. -/
def CodeOk (P : Program) (I : Interp) (c : Code) (st : St) (ob : List Obl) (outs : List Out) : Prop :=
  ∀ (w0 : W0), w0.i = I → (∀ o ∈ ob, o.ok w0) → ∀ {B : Nat} {ρ : Env} {σ : Pl} {a : Act} {w : World}, HRep w0 B ρ σ st.h w → FRep ρ σ st.h st.fr st.n a → ∀ {Q : Exit → Act → World → Prop},
    (∀ o ∈ outs, Post w0 B ρ σ st.h o.st (Q o.ex.to)) → c.wp P Q a w
theorem nors_ok {r : Option (List Obl × List St)} {ob : List Obl} {outs : List Out} (e : nors r = some (ob, outs)) : ∃ sts, r = some (ob, sts) ∧ ∀ s ∈ sts, ⟨.nor, s⟩ ∈ outs := by
  unfold nors at e
  rw [Option.map_eq_some_iff] at e
  obtain ⟨q, hq, e⟩ := e
  cases e
  exact ⟨q.2, hq, fun s hs => List.mem_map_of_mem hs⟩

/-- a loop's rounds, from any on. -/
def LoopWp (P : Program) (c : Code) (Q : Exit → Act → World → Prop) (a : Act) (w : World) : Prop :=
  ∀ (b : Frame) (k : List Item) (cs : List Frame), ∃ e a' w', Q e a' w' ∧ Arrives P (lone (b.at a (.code c :: .inLoop c :: k)) cs w) b k cs e a' w'
theorem wp_of_LoopWp {c : Code} {Q : Exit → Act → World → Prop} {a : Act} {w : World} (h : LoopWp P c Q a w) : (Code.loop c).wp P Q a w := by
  intro b k cs
  obtain ⟨e, a', w', hq, harr⟩ := h b k cs
  exact ⟨e, a', w', hq, .of_steps (.one step_loop) harr⟩
theorem LoopWp.round {c : Code} {Q : Exit → Act → World → Prop} {a : Act} {w : World} (h : c.wp P (Exit.then (LoopWp P c Q) Q) a w) : LoopWp P c Q a w := by
  intro b k cs
  obtain ⟨e, a₁, w₁, hq, harr⟩ := h b (.inLoop c :: k) cs
  cases e with
  | normal =>
    obtain ⟨e₂, a₂, w₂, hq₂, harr₂⟩ := hq b k cs
    exact ⟨e₂, a₂, w₂, hq₂, .of_steps (Steps.trans harr (.one step_inLoop)) harr₂⟩
  | _ => exact ⟨_, a₁, w₁, hq, .pass (x := .inLoop c) rfl (fun _ _ => .inl (by simp)) harr⟩

theorem roundT_mem {h0 : H} {t : Tm} : ∀ {l : List Out} {ob : List Obl} {r : List Out}, roundT h0 t l = some (ob, r) → ∀ o ∈ l, (o.ex = .nor ∧ ∃ g F, genSt h0 t.T o.st g = some F ∧ t.m.vs (blt' t.T.h.nv) = true ∧
      ∀ b ∈ fob o.st.h.fs (.x (.o .le (.n 0) (t.m.sub g.f)) :: .x (.o .lt (t.m.sub g.f) t.m) :: F), b ∈ ob) ∨ (o.ex ≠ .nor ∧ o ∈ r)
  | [], ob, r, e => by simp
  | o :: l, ob, r, e => by
    simp only [roundT] at e
    obtain ⟨q, hq, e⟩ := bind1 e
    intro x hx
    cases ho : o.ex with
    | nor =>
      simp only [ho] at e
      obtain ⟨F, hF, e⟩ := bind1 e
      obtain ⟨hm, e⟩ := bnd e
      cases e
      simp only [List.mem_cons] at hx
      rcases hx with rfl | hx
      · exact .inl ⟨ho, _, F, hF, hm, fun b hb => List.mem_append_left _ hb⟩
      · rcases roundT_mem (ob := q.1) (r := q.2) hq x hx with ⟨h1, g, F, h2, h3, h4⟩ | h1
        · exact .inl ⟨h1, g, F, h2, h3, fun b hb => List.mem_append_right _ (h4 b hb)⟩
        · exact .inr h1
    | exit id =>
      simp only [ho, Option.some.injEq, Prod.mk.injEq] at e
      obtain ⟨rfl, rfl⟩ := e
      simp only [List.mem_cons] at hx
      rcases hx with rfl | hx
      · exact .inr ⟨(by rw [ho]; intro h; cases h), List.mem_cons_self⟩
      · rcases roundT_mem (ob := q.1) (r := q.2) hq x hx with h1 | ⟨h1, h2⟩
        · exact .inl h1
        · exact .inr ⟨h1, List.mem_cons_of_mem _ h2⟩
    | ret =>
      simp only [ho, Option.some.injEq, Prod.mk.injEq] at e
      obtain ⟨rfl, rfl⟩ := e
      simp only [List.mem_cons] at hx
      rcases hx with rfl | hx
      · exact .inr ⟨(by rw [ho]; intro h; cases h), List.mem_cons_self⟩
      · rcases roundT_mem (ob := q.1) (r := q.2) hq x hx with h1 | ⟨h1, h2⟩
        · exact .inl h1
        · exact .inr ⟨h1, List.mem_cons_of_mem _ h2⟩
theorem loopT_ok {c : Code} {body : St → Option (List Obl × List Out)} (hb : ∀ st ob outs, body st = some (ob, outs) → CodeOk P w0.i c st ob outs) {t : Tm} {st : St} {ob : List Obl} {outs : List Out}
    (e : loopT body t st = some (ob, outs)) (hob : ∀ o ∈ ob, o.ok w0) {B : Nat} {ρ : Env} {σ : Pl} {a : Act} {w : World} (hrep : HRep w0 B ρ σ st.h w) (hfr : FRep ρ σ st.h st.fr st.n a)
    {Q : Exit → Act → World → Prop} (hp : ∀ o ∈ outs, Post w0 B ρ σ st.h o.st (Q o.ex.to)) : LoopWp P c Q a w := by
  unfold loopT at e
  obtain ⟨F, hF, e⟩ := bind1 e
  obtain ⟨q, hq, e⟩ := bind1 e
  rw [Option.map_eq_some_iff] at e
  obtain ⟨r, hr, e⟩ := e
  cases e
  have key : ∀ n (ρ' : Env) (σ' : Pl) (a' : Act) (w' : World), Ext st.h ρ ρ' σ σ' → st.h.le t.T.h → HRep w0 B ρ' σ' t.T.h w' → FRep ρ' σ' t.T.h t.T.fr t.T.n a' → (t.m.den ρ').asI.toNat < n → LoopWp P c Q a' w' := by
    intro n
    induction n with
    | zero => intro ρ' σ' a' w' _ _ _ _ h; omega
    | succ n ih =>
      intro ρ' σ' a' w' he hle hr' hf' hn
      refine LoopWp.round (hb t.T q.1 q.2 hq _ rfl (fun o ho => hob o (List.mem_append_right _ (List.mem_append_left _ ho))) hr' hf' fun o ho => ?_)
      intro ρ2 σ2 a2 w2 he2 hle2 hr2 hf2
      rcases roundT_mem (ob := r.1) (r := r.2) hr o ho with ⟨hx, g, F', h1, h2, h3⟩ | ⟨hx, hmem⟩
      · have hfs := fob_ok (w0 := w0) (fs := o.st.h.fs) (fun b hb => hob b (List.mem_append_right _ (List.mem_append_right _ (h3 b hb)))) ρ2 hr2.now.ip hr2.now.facts
        obtain ⟨k1, k2, k3, k4⟩ := genSt_ok h1 hr2.now hf2.now fun c hc => hfs c (List.mem_cons_of_mem _ (List.mem_cons_of_mem _ hc))
        have m1 := hfs _ List.mem_cons_self
        have m2 := hfs _ (List.mem_cons_of_mem _ List.mem_cons_self)
        simp only [Fact.ok, X.den, O2.den, asB_b, asI_i, ile_iff, ilt_iff, X.den_sub] at m1 m2
        have m3 : t.m.den ρ2 = t.m.den ρ' := X.den_vs he2.f (fun i hi => he2.v i (Or.inl (by simpa [blt', Nat.blt_eq] using hi))) h2
        rw [m3] at m2
        rw [hx]
        exact ih _ _ a2 w2 ((he.trans (he2.of_le hle) (fun _ h => h) (fun _ h => h)).trans k1 (fun _ h => h) (fun _ h => h)) hle k3 k4 (by omega)
      · have := hp o hmem ρ2 σ2 a2 w2 (he.trans (he2.of_le hle) (fun _ h => h) (fun _ h => h)) (hle.trans hle2) hr2 hf2
        cases hx2 : o.ex with
        | nor => exact absurd hx2 hx
        | exit id => rw [hx2] at this; exact this
        | ret => rw [hx2] at this; exact this
  have hfs := fob_ok (w0 := w0) (fs := st.h.fs) (fun b hb => hob b (List.mem_append_left _ hb)) ρ hrep.now.ip hrep.now.facts
  obtain ⟨k1, k2, k3, k4⟩ := genSt_ok hF hrep.now hfr.now hfs
  exact key _ _ _ a w k1 k2 k3 k4 (Nat.lt_succ_self _)

theorem execLoop_ok {c : Code} {body : St → Option (List Obl × List Out)} (hb : ∀ st ob outs, body st = some (ob, outs) → CodeOk P w0.i c st ob outs) {tm : St → Option Tm} :
    ∀ {f : Nat} {st : St} {ob : List Obl} {outs : List Out}, execLoop body tm f st = some (ob, outs) → (∀ o ∈ ob, o.ok w0) → ∀ {B : Nat} {ρ : Env} {σ : Pl} {a : Act} {w : World}, HRep w0 B ρ σ st.h w →
      FRep ρ σ st.h st.fr st.n a → ∀ {Q : Exit → Act → World → Prop}, (∀ o ∈ outs, Post w0 B ρ σ st.h o.st (Q o.ex.to)) → LoopWp P c Q a w
  | 0, st, ob, outs, e, _, _, _, _, _, _, _, _, _, _ => by cases e
  | f + 1, st, ob, outs, e, hob, B, ρ, σ, a, w, hr, hf, Q, hp => by
    simp only [execLoop] at e
    split at e
    · exact loopT_ok hb e hob hr hf hp
    obtain ⟨ob1, l, h1, h2, h3⟩ := thenAll_mem e
    refine LoopWp.round (hb st ob1 l h1 _ rfl (fun o ho => hob o (h2 o ho)) hr hf fun o ho => ?_)
    obtain ⟨ob2, r2, h4, h5, h6⟩ := h3 o ho
    intro ρ' σ' a' w' he hle hr' hf'
    cases hx : o.ex with
    | nor =>
      rw [hx] at h4
      exact execLoop_ok hb h4 (fun o ho => hob o (h5 o ho)) hr' hf' fun o' ho' => (hp o' (h6 o' ho')).from he hle
    | exit id =>
      rw [hx] at h4
      simp only [Option.some.injEq, Prod.mk.injEq] at h4
      obtain ⟨_, rfl⟩ := h4
      have := hp o (h6 o List.mem_cons_self) ρ' σ' a' w' he hle hr' hf'
      rw [hx] at this
      exact this
    | ret =>
      rw [hx] at h4
      simp only [Option.some.injEq, Prod.mk.injEq] at h4
      obtain ⟨_, rfl⟩ := h4
      have := hp o (h6 o List.mem_cons_self) ρ' σ' a' w' he hle hr' hf'
      rw [hx] at this
      exact this

theorem resOne_ok {C : Ctx} (hC : CtxOk P w0.i C) {st : St} {r : ResultVar} {g : List X} {v : SV} (e : resOne C st r = some (g, v)) {B : Nat} {ρ : Env} {σ : Pl} {a : Act} {w : World}
    (hr : HOk w0 B ρ σ st.h w) (hf : FrOk ρ σ st.fr st.n a) (hg : ∀ q ∈ g, (q.den ρ).asB = true) :
    (match r with | .tmp t => (pure (a.tmps.getD t undef) : Sem Value) | .cell t ty => do loadVar ty (← asAddr (a.tmps.getD t undef))).run P w = .ok (v.val ρ σ) w := by
  cases r with
  | tmp t =>
    simp only [resOne] at e
    rw [Option.map_eq_some_iff] at e
    obtain ⟨v', hv, e⟩ := e
    cases e
    simp only [Sem.run_pure, hf.get t v hv]
  | cell t ty =>
    simp only [resOne] at e
    obtain ⟨p, hp, e⟩ := bind1 e
    obtain ⟨q, hq, e⟩ := bind1 e
    rw [Option.map_eq_some_iff] at e
    obtain ⟨v', hv, e⟩ := e
    cases e
    obtain ⟨g', sv, h'⟩ := q
    obtain ⟨s, hs, _, hrun⟩ := mLoad_ok hC.tt hq hr hg
    simp only at hv
    rw [hv] at hs
    cases hs
    have h1 := hf.get t p hp
    simp only [Sem.run_bind, h1]
    unfold mLoad at hq
    split at hq
    · simp only [SV.val, asAddr, Sem.run_pure, Result.andThen_ok]
      simp only [Instr.loadAt, SV.val, Instr.sureAddr, Sem.run_bind, Sem.run_pure, Result.andThen_ok] at hrun
      exact hrun
    · simp only [SV.val, asAddr, Sem.run_pure, Result.andThen_ok]
      simp only [Instr.loadAt, SV.val, Instr.sureAddr, Sem.run_bind, Sem.run_pure, Result.andThen_ok] at hrun
      exact hrun
    · cases hq
theorem resAll_ok {C : Ctx} (hC : CtxOk P w0.i C) {st : St} : ∀ {l : List ResultVar} {g : List X} {vs : List SV}, resAll C st l = some (g, vs) → ∀ {B : Nat} {ρ : Env} {σ : Pl} {a : Act} {w : World},
    HOk w0 B ρ σ st.h w → FrOk ρ σ st.fr st.n a → (∀ q ∈ g, (q.den ρ).asB = true) →
    (l.mapM fun (r : ResultVar) => (match r with | .tmp t => (pure (a.tmps.getD t undef) : Sem Value) | .cell t ty => do loadVar ty (← asAddr (a.tmps.getD t undef)))).run P w = .ok (vs.map (SV.val ρ σ)) w
  | [], g, vs, e, B, ρ, σ, a, w, hr, hf, hg => by
    simp only [resAll, Option.some.injEq, Prod.mk.injEq] at e
    obtain ⟨_, rfl⟩ := e
    simp
  | r :: l, g, vs, e, B, ρ, σ, a, w, hr, hf, hg => by
    simp only [resAll] at e
    obtain ⟨q, hq, e⟩ := bind1 e
    rw [Option.map_eq_some_iff] at e
    obtain ⟨s, hs, e⟩ := e
    cases e
    have h1 := resOne_ok hC (g := q.1) (v := q.2) hq hr hf fun x hx => hg x (List.mem_append_left _ hx)
    have h2 := resAll_ok hC (g := s.1) (vs := s.2) hs hr hf fun x hx => hg x (List.mem_append_right _ hx)
    simp only [List.mapM_cons, Sem.run_bind, h1, Result.andThen_ok, h2, Sem.run_pure, List.map_cons]

theorem frOf_get : ∀ (l : List SV) (i : Nat) (acc : List (Nat × SV)) (t : Nat) (v : SV), fget (frOf i l acc) t = some v → (i ≤ t ∧ l[t - i]? = some v) ∨ fget acc t = some v
  | [], i, acc, t, v, h => .inr h
  | a :: l, i, acc, t, v, h => by
    simp only [frOf] at h
    rcases frOf_get l (i + 1) _ t v h with ⟨h1, h2⟩ | h1
    · refine .inl ⟨by omega, ?_⟩
      have : t - i = (t - (i + 1)) + 1 := by omega
      rw [this]; simpa using h2
    · simp only [fget_cons] at h1
      cases hb : Nat.beq i t with
      | true =>
        have := beq_true.1 hb
        subst this
        simp only [hb, cond_true, Option.some.injEq] at h1
        subst h1
        exact .inl ⟨Nat.le_refl _, by simp⟩
      | false => simp only [hb, cond_false] at h1; exact .inr h1

theorem resS_ok {C : Ctx} (hC : CtxOk P w0.i C) {fn : Func} {o : Out} {ob : List Obl} {rs : List (SV × H)} (e : resS C fn o = some (ob, rs)) (hob : ∀ x ∈ ob, x.ok w0)
    {B : Nat} {ρ : Env} {σ : Pl} {a : Act} {w : World} (hr : HRep w0 B ρ σ o.st.h w) (hf : FRep ρ σ o.st.h o.st.fr o.st.n a) :
    (o.ex = .nor ∨ o.ex = .ret) ∧ ∃ q ∈ rs, ∃ v, (results fn a.tmps).run P w = .ok v w ∧ o.st.h.le q.2 ∧ HRep w0 B ρ σ q.2 w ∧ VRep ρ σ q.2 [q.1] [v] := by
  unfold resS at e
  have hex : o.ex = .nor ∨ o.ex = .ret := by
    cases hx : o.ex with
    | nor => exact .inl rfl
    | ret => exact .inr rfl
    | exit id => rw [hx] at e; cases e
  refine ⟨hex, ?_⟩
  have e' : (resAll C o.st fn.results.toList).map (fun q => (obls o.st.h.fs q.1, [((match q.2 with | [v] => v | l => SV.tuple l), { o.st.h with fs := newFs o.st.h.fs q.1 })])) = some (ob, rs) := by
    rcases hex with hx | hx <;> rw [hx] at e <;> exact e
  rw [Option.map_eq_some_iff] at e'
  obtain ⟨⟨g, vs⟩, hq, e'⟩ := e'
  simp only [Prod.mk.injEq] at e'
  obtain ⟨rfl, rfl⟩ := e'
  have hg := obls_ok (fs := o.st.h.fs) (l := g) hob
  have hval : ∀ ρ₁ σ₁, Ext o.st.h ρ ρ₁ σ σ₁ → (results fn a.tmps).run P w = .ok ((match vs with | [v] => v | l => SV.tuple l).val ρ₁ σ₁) w := by
    intro ρ₁ σ₁ he
    have h0 := hr _ _ he
    have h1 := resAll_ok hC hq h0 (hf _ _ he) (hg ρ₁ h0.ip h0.facts)
    have h2 : fn.results.mapM (fun (r : ResultVar) => (match r with | .tmp t => (pure (a.tmps.getD t undef) : Sem Value) | .cell t ty => do loadVar ty (← asAddr (a.tmps.getD t undef)))) =
        List.toArray <$> fn.results.toList.mapM (fun (r : ResultVar) => (match r with | .tmp t => (pure (a.tmps.getD t undef) : Sem Value) | .cell t ty => do loadVar ty (← asAddr (a.tmps.getD t undef)))) := by
      rw [← List.mapM_toArray, Array.toArray_toList]
    unfold results
    simp only [Sem.run_bind]
    erw [h2]
    simp only [Sem.run_map, h1, Result.andThen_ok, Sem.run_pure]
    congr 1
    cases vs with
    | nil => simp [SV.val, vals_eq]
    | cons v l => cases l with
      | nil => simp
      | cons v' l => simp [SV.val, vals_eq]
  refine ⟨_, List.mem_cons_self, (match vs with | [v] => v | l => SV.tuple l).val ρ σ, hval ρ σ (Ext.refl _ _ _), ⟨fun _ h => h, fun _ h => h⟩, ?_, ?_⟩
  · exact hr.fs _ fun ρ₁ σ₁ he => newFs_ok (hr _ _ he).facts (hg ρ₁ (hr _ _ he).ip (hr _ _ he).facts)
  · intro ρ₁ σ₁ he
    have h1 := hval ρ₁ σ₁ ⟨he.f, he.p, he.v, he.b⟩
    rw [hval ρ σ (Ext.refl _ _ _)] at h1
    simp only [Result.ok.injEq, and_true] at h1
    simp [h1]

theorem callIn_ok {C : Ctx} (hC : CtxOk P I C) {ex : Nat → Code → St → Option (List Obl × List Out)} (hex : ∀ i c st ob outs, ex i c st = some (ob, outs) → CodeOk P I c st ob outs) : CfOk P I C (callIn C ex) := by
  intro i fn0 hfn0 args h ob rs e
  unfold callIn at e
  split at e
  · rename_i k hk
    exact hC.hd i k hk args h ob rs e
  · obtain ⟨fn, hfn, e⟩ := bind1 e
    obtain ⟨c, hc, e⟩ := bind1 e
    cases hb : Nat.ble args.length fn.ntmps with
    | false => simp [hb] at e
    | true =>
      simp only [hb, cond_true] at e
      have hlen := Nat.le_of_ble_eq_true hb
      obtain ⟨ob1, l, h1, h2, h3⟩ := thenAll_mem e
      intro w0 hw hob B ρ σ w vs hr hvs
      subst hw
      have hvl : vs.length = args.length := by
        have := hvs ρ σ (Ext.refl _ _ _)
        rw [← this]; simp
      refine calls_of_wp (hC.ft i fn hfn).1 hc ?_
      refine hex i c _ ob1 l h1 _ rfl (fun o ho => hob o (h2 o ho)) hr ?_ ?_
      · intro ρ₁ σ₁ he
        refine ⟨by simp [hvl]; omega, fun t v ht => ?_, rfl⟩
        rcases frOf_get args 0 [] t v ht with ⟨_, hv⟩ | hv
        · simp only [Nat.sub_zero] at hv
          have hlt := (List.getElem?_eq_some_iff.1 hv).1
          have h4 := hvs ρ₁ σ₁ he
          have h5 : vs[t]? = some (v.val ρ₁ σ₁) := by rw [← h4]; simp [hv]
          simp only [Array.getD_eq_getD_getElem?]
          rw [Array.getElem?_append_left (by simp [hvl]; exact hlt)]
          simp [h5]
        · cases hv
      · intro o ho ρ' σ' a' w' he hle hr' hf'
        obtain ⟨ob2, rs2, h4, h5, h6⟩ := h3 o ho
        obtain ⟨hx, q, hq, v, hrun, hle2, hr2, hv2⟩ := resS_ok hC h4 (fun x hx => hob x (h5 x hx)) hr' hf'
        have hfin : a'.defers = [] ∧ ∃ v, (results fn a'.tmps).run P w' = .ok v w' ∧ (∃ q ∈ rs, ∃ ρ' σ' v_1, (Ending.returned v) = .returned v_1 ∧ Ext h ρ ρ' σ σ' ∧ h.le q.2 ∧ HRep w0 B ρ' σ' q.2 w' ∧ VRep ρ' σ' q.2 [q.1] [v_1]) :=
          ⟨hf'.now.defers, v, hrun, q, h6 q hq, ρ', σ', v, rfl, he, hle.trans hle2, hr2, hv2⟩
        rcases hx with hx | hx <;> rw [hx] <;> exact hfin

theorem fget_keepM (m t : Nat) (v : SV) : ∀ (fr : List (Nat × SV)), fget (keepM m fr) t = some v → fget fr t = some v
  | [], h => h
  | (k, u) :: r, h => by
    have ih := fget_keepM m t v r
    have e : keepM m ((k, u) :: r) = bif Nat.beq (Nat.land (Nat.shiftRight m k) 1) 0 then keepM m r else (k, u) :: keepM m r := rfl
    rw [e] at h
    rw [fget_cons]
    cases hb : Nat.beq (Nat.land (Nat.shiftRight m k) 1) 0 with
    | true =>
      rw [hb] at h
      simp only [cond_true] at h
      cases hk : Nat.beq k t with
      | false => exact ih h
      | true =>
        have := beq_true.1 hk
        subst this
        exact absurd h (by rw [none hb]; simp)
    | false =>
      rw [hb] at h
      simp only [cond_false, fget_cons] at h
      cases hk : Nat.beq k t with
      | false => rw [hk] at h; exact ih h
      | true => rw [hk] at h; exact h
where
  none {m k : Nat} (hb : Nat.beq (Nat.land (Nat.shiftRight m k) 1) 0 = true) : ∀ {fr : List (Nat × SV)}, fget (keepM m fr) k = none
    | [] => rfl
    | (j, u) :: r => by
      have ih := none hb (fr := r)
      have e : keepM m ((j, u) :: r) = bif Nat.beq (Nat.land (Nat.shiftRight m j) 1) 0 then keepM m r else (j, u) :: keepM m r := rfl
      rw [e]
      cases hj : Nat.beq (Nat.land (Nat.shiftRight m j) 1) 0 with
      | true => exact ih
      | false =>
        simp only [cond_false, fget_cons]
        cases hk : Nat.beq j k with
        | false => exact ih
        | true => have := beq_true.1 hk; subst this; rw [hb] at hj; cases hj
theorem FRep.keepM {ρ : Env} {σ : Pl} {h : H} {fr : List (Nat × SV)} {n : Nat} {a : Act} (hf : FRep ρ σ h fr n a) (m : Nat) : FRep ρ σ h (keepM m fr) n a := fun ρ' σ' he =>
  ⟨(hf _ _ he).size, fun t v ht => (hf _ _ he).get t v (fget_keepM m t v fr ht), (hf _ _ he).defers⟩
theorem keepR_mem {m : Option Nat} {r : Option (List Obl × List St)} {ob : List Obl} {sts : List St} (e : keepR m r = some (ob, sts)) : ∃ sts0, r = some (ob, sts0) ∧ ∀ s ∈ sts0, s ∈ sts ∨ ∃ m, { s with fr := keepM m s.fr } ∈ sts := by
  unfold keepR at e
  split at e
  · exact ⟨sts, e, fun s hs => .inl hs⟩
  · rename_i m
    rw [Option.map_eq_some_iff] at e
    obtain ⟨q, hq, e⟩ := e
    cases e
    exact ⟨q.2, hq, fun s hs => .inr ⟨m, List.mem_map_of_mem (f := fun s : St => { s with fr := keepM m s.fr }) hs⟩⟩
theorem Post.kept {B : Nat} {ρ : Env} {σ : Pl} {h : H} {sts : List St} {K : Act → World → Prop} (hp : ∀ s ∈ sts, Post w0 B ρ σ h s K) {s : St} (hs : s ∈ sts ∨ ∃ m, { s with fr := keepM m s.fr } ∈ sts) : Post w0 B ρ σ h s K := by
  rcases hs with hs | ⟨m, hs⟩
  · exact hp _ hs
  · exact fun ρ' σ' a' w' h1 h2 h3 h4 => hp _ hs ρ' σ' a' w' h1 h2 h3 (h4.keepM m)
theorem joinT_mem {h0 : H} {T : St} : ∀ {l : List Out} {ob : List Obl} {r : List Out}, joinT h0 T l = some (ob, r) → ⟨.nor, T⟩ ∈ r ∧ ∀ o ∈ l, (o.ex = .nor ∧ ∃ g F, genSt h0 T o.st g = some F ∧ ∀ b ∈ fob o.st.h.fs F, b ∈ ob) ∨ o ∈ r
  | [], ob, r, e => by simp only [joinT, Option.some.injEq, Prod.mk.injEq] at e; obtain ⟨_, rfl⟩ := e; exact ⟨List.mem_cons_self, by simp⟩
  | o :: l, ob, r, e => by
    simp only [joinT] at e
    have rest : ∀ {x : Option (List Obl × List Out)} {q : List Obl × List Out}, joinT h0 T l = some q → (∀ b ∈ q.1, b ∈ ob) → (∀ p ∈ q.2, p ∈ r) → ⟨.nor, T⟩ ∈ r ∧ ∀ o ∈ l, (o.ex = .nor ∧ ∃ g F, genSt h0 T o.st g = some F ∧ ∀ b ∈ fob o.st.h.fs F, b ∈ ob) ∨ o ∈ r := by
      intro x q hq h1 h2
      obtain ⟨k1, k2⟩ := joinT_mem (ob := q.1) (r := q.2) hq
      refine ⟨h2 _ k1, fun o ho => ?_⟩
      rcases k2 o ho with ⟨a, g, F, b, c⟩ | a
      · exact .inl ⟨a, g, F, b, fun x hx => h1 _ (c x hx)⟩
      · exact .inr (h2 _ a)
    cases hx : o.ex with
    | nor =>
      rw [hx] at e
      simp only at e
      obtain ⟨F, hF, e⟩ := bind1 e
      rw [Option.map_eq_some_iff] at e
      obtain ⟨q, hq, e⟩ := e
      cases e
      obtain ⟨k1, k2⟩ := rest (x := none) hq (fun b hb => List.mem_append_right _ hb) (fun p hp => hp)
      refine ⟨k1, fun p hp => ?_⟩
      simp only [List.mem_cons] at hp
      rcases hp with rfl | hp
      · exact .inl ⟨hx, _, F, hF, fun b hb => List.mem_append_left _ hb⟩
      · exact k2 p hp
    | exit id =>
      rw [hx] at e
      simp only at e
      rw [Option.map_eq_some_iff] at e
      obtain ⟨q, hq, e⟩ := e
      cases e
      obtain ⟨k1, k2⟩ := rest (x := none) hq (fun b hb => hb) (fun p hp => List.mem_cons_of_mem _ hp)
      refine ⟨k1, fun p hp => ?_⟩
      simp only [List.mem_cons] at hp
      rcases hp with rfl | hp
      · exact .inr List.mem_cons_self
      · exact k2 p hp
    | ret =>
      rw [hx] at e
      simp only at e
      rw [Option.map_eq_some_iff] at e
      obtain ⟨q, hq, e⟩ := e
      cases e
      obtain ⟨k1, k2⟩ := rest (x := none) hq (fun b hb => hb) (fun p hp => List.mem_cons_of_mem _ hp)
      refine ⟨k1, fun p hp => ?_⟩
      simp only [List.mem_cons] at hp
      rcases hp with rfl | hp
      · exact .inr List.mem_cons_self
      · exact k2 p hp
/-- behind a join each outcome serves. -/
theorem joinR_ok {h0 : H} {T : Option St} {r : Option (List Obl × List Out)} {ob : List Obl} {outs : List Out} (e : joinR h0 T r = some (ob, outs)) (hob : ∀ o ∈ ob, o.ok w0) {B : Nat} {ρ : Env} {σ : Pl} {Q : Exit → Act → World → Prop}
    (hp : ∀ o ∈ outs, Post w0 B ρ σ h0 o.st (Q o.ex.to)) : ∃ ob0 outs0, r = some (ob0, outs0) ∧ (∀ o ∈ ob0, o.ok w0) ∧ ∀ o ∈ outs0, Post w0 B ρ σ h0 o.st (Q o.ex.to) := by
  unfold joinR at e
  split at e
  · exact ⟨ob, outs, e, hob, hp⟩
  · rename_i T
    obtain ⟨q, hq, e⟩ := bind1 e
    rw [Option.map_eq_some_iff] at e
    obtain ⟨s, hs, e⟩ := e
    cases e
    obtain ⟨k1, k2⟩ := joinT_mem (ob := s.1) (r := s.2) hs
    refine ⟨q.1, q.2, hq, fun o ho => hob o (List.mem_append_left _ ho), fun o ho => ?_⟩
    rcases k2 o ho with ⟨hx, g, F, h1, h2⟩ | h1
    · intro ρ' σ' a' w' he hle hr' hf'
      have hfs := fob_ok (w0 := w0) (fs := o.st.h.fs) (fun b hb => hob b (List.mem_append_right _ (h2 b hb))) ρ' hr'.now.ip hr'.now.facts
      obtain ⟨m1, m2, m3, m4⟩ := genSt_ok h1 hr'.now hf'.now hfs
      have := hp _ k1 _ _ a' w' (he.trans m1 (fun _ h => h) (fun _ h => h)) m2 m3 m4
      rw [hx]; exact this
    · exact hp o h1

theorem execCode_ok {C : Ctx} (hC : CtxOk P I C) : ∀ (f i : Nat) (c : Code) (st : St) (ob : List Obl) (outs : List Out), execCode C f i c st = some (ob, outs) → CodeOk P I c st ob outs
  | 0, i, c, st, ob, outs, e => by cases e
  | f + 1, i, c, st, ob, outs, e => by
    have ih := execCode_ok hC f
    have hcf := callIn_ok hC ih
    replace ih := ih i
    intro w0 hw hob B ρ σ a w hr hf Q hp
    subst hw
    cases c with
    | skip =>
      simp only [execCode, Option.some.injEq, Prod.mk.injEq] at e
      obtain ⟨_, rfl⟩ := e
      exact wp_skip (hp _ List.mem_cons_self ρ σ a w (Ext.refl _ _ _) (H.le.refl _) hr hf)
    | label l =>
      simp only [execCode, Option.some.injEq, Prod.mk.injEq] at e
      obtain ⟨_, rfl⟩ := e
      exact wp_label (hp _ List.mem_cons_self ρ σ a w (Ext.refl _ _ _) (H.le.refl _) hr hf)
    | exit id =>
      simp only [execCode, Option.some.injEq, Prod.mk.injEq] at e
      obtain ⟨_, rfl⟩ := e
      exact wp_exit (hp _ List.mem_cons_self ρ σ a w (Ext.refl _ _ _) (H.le.refl _) hr hf)
    | ret =>
      simp only [execCode, Option.some.injEq, Prod.mk.injEq] at e
      obtain ⟨_, rfl⟩ := e
      exact wp_ret (hp _ List.mem_cons_self ρ σ a w (Ext.refl _ _ _) (H.le.refl _) hr hf)
    | region id ops draw =>
      cases draw with
      | false =>
        simp only [execCode] at e
        obtain ⟨sts, hs, hmem⟩ := nors_ok e
        obtain ⟨sts0, hs, hk⟩ := keepR_mem hs
        exact wp_region_list (execOps_ok hC hcf hs hob hr hf fun s hs => Post.kept (fun s hs => hp _ (hmem s hs)) (hk s hs))
      | true =>
        simp only [execCode] at e
        obtain ⟨sts, hs, hmem⟩ := nors_ok e
        obtain ⟨sts0, hs, hk⟩ := keepR_mem hs
        exact splitD_ok (M := fun Q a w => (Code.region id ops true).wp P Q a w) (fun st ob sts e hob B ρ σ a w hr hf Q hp => execDraw_ok hC hcf e hob hr hf hp id) hs hob hr hf (fun s hs => Post.kept (fun s hs => hp _ (hmem s hs)) (hk s hs))
    | seq x y =>
      simp only [execCode] at e
      obtain ⟨ob1, l, h1, h2, h3⟩ := thenAll_mem e
      refine wp_seq (ih x st ob1 l h1 _ rfl (fun o ho => hob o (h2 o ho)) hr hf fun o ho => ?_)
      obtain ⟨ob2, r2, h4, h5, h6⟩ := h3 o ho
      intro ρ' σ' a' w' he hle hr' hf'
      cases hx : o.ex with
      | nor =>
        rw [hx] at h4
        exact ih y o.st ob2 r2 h4 _ rfl (fun o ho => hob o (h5 o ho)) hr' hf' fun o' ho' => (hp o' (h6 o' ho')).from he hle
      | exit id =>
        rw [hx] at h4
        simp only [Option.some.injEq, Prod.mk.injEq] at h4
        obtain ⟨_, rfl⟩ := h4
        have := hp o (h6 o List.mem_cons_self) ρ' σ' a' w' he hle hr' hf'
        rw [hx] at this
        exact this
      | ret =>
        rw [hx] at h4
        simp only [Option.some.injEq, Prod.mk.injEq] at h4
        obtain ⟨_, rfl⟩ := h4
        have := hp o (h6 o List.mem_cons_self) ρ' σ' a' w' he hle hr' hf'
        rw [hx] at this
        exact this
    | cond x y z =>
      simp only [execCode] at e
      obtain ⟨v, hv, e⟩ := bind1 e
      have hval : ∀ ρ₁ σ₁, Ext st.h ρ ρ₁ σ σ₁ → a.eval x = v.val ρ₁ σ₁ := fun ρ₁ σ₁ he => ev_ok (hf _ _ he) hv
      split at e
      · exact wp_cond_true (hval ρ σ (Ext.refl _ _ _)) (ih y st ob outs e _ rfl hob hr hf hp)
      · exact wp_cond_false (hval ρ σ (Ext.refl _ _ _)) (ih z st ob outs e _ rfl hob hr hf hp)
      · rename_i q _ _
        have hq := hval ρ σ (Ext.refl _ _ _)
        have hsame : ∀ ρ₁ σ₁, Ext st.h ρ ρ₁ σ σ₁ → (q.den ρ₁).asB = (q.den ρ).asB := fun ρ₁ σ₁ he => by
          have h1 := hval ρ₁ σ₁ he
          rw [hq] at h1
          simpa [SV.val] using h1.symm
        cases hk : known st.h.fs q with
        | true =>
          simp only [hk, cond_true] at e
          have hb := known_ok hk ρ hr.now.facts
          simp only [SV.val, hb] at hq
          exact wp_cond_true hq (ih y st ob outs e _ rfl hob hr hf hp)
        | false =>
          simp only [hk, cond_false] at e
          cases hk2 : known st.h.fs (mNot q) with
          | true =>
            simp only [hk2, cond_true] at e
            have hb := known_ok hk2 ρ hr.now.facts
            rw [mNot_den] at hb
            have hb' : (q.den ρ).asB = false := by simpa using hb
            simp only [SV.val, hb'] at hq
            exact wp_cond_false hq (ih z st ob outs e _ rfl hob hr hf hp)
          | false =>
            simp only [hk2, cond_false] at e
            obtain ⟨ob0, outs0, e, hob, hp⟩ := joinR_ok e hob hp
            obtain ⟨o1, t1, o2, t2, ea, eb, ho1, ho2, ht1, ht2⟩ := both_mem e
            refine wp_cond_split hq (fun hb => ?_) (fun hb => ?_)
            · refine ih y (assume q true st) o1 t1 ea _ rfl (fun o ho => hob o (ho1 o ho)) (assume_rep hr fun ρ₁ σ₁ he => by rw [hsame _ _ he, hb]) (hf.ext (Ext.refl _ _ _) ⟨fun _ h => h, fun _ h => h⟩) ?_
              exact fun o ho => (hp o (ht1 o ho)).from (h' := (assume q true st).h) (Ext.refl _ _ _) ⟨fun _ h => h, fun _ h => h⟩
            · refine ih z (assume q false st) o2 t2 eb _ rfl (fun o ho => hob o (ho2 o ho)) (assume_rep hr fun ρ₁ σ₁ he => by rw [hsame _ _ he, hb]) (hf.ext (Ext.refl _ _ _) ⟨fun _ h => h, fun _ h => h⟩) ?_
              exact fun o ho => (hp o (ht2 o ho)).from (h' := (assume q false st).h) (Ext.refl _ _ _) ⟨fun _ h => h, fun _ h => h⟩
      · cases e
    | block id b =>
      simp only [execCode] at e
      obtain ⟨ob0, outs0, e, hob, hp⟩ := joinR_ok e hob hp
      rw [Option.map_eq_some_iff] at e
      obtain ⟨q, hq, e⟩ := e
      cases e
      refine wp_block (ih b st q.1 q.2 hq _ rfl hob hr hf fun o ho => ?_)
      have hp1 := hp (inBlk id o) (List.mem_map_of_mem ho)
      intro ρ' σ' a' w' he hle hr' hf'
      unfold inBlk at hp1
      cases hx : o.ex with
      | nor => rw [hx] at hp1; simp only [hx, Ex.to] at hp1; simp only [Exit.inBlock, Ex.to]; exact hp1 ρ' σ' a' w' he hle hr' hf'
      | ret => rw [hx] at hp1; simp only [hx, Ex.to] at hp1; simp only [Exit.inBlock, Ex.to]; exact hp1 ρ' σ' a' w' he hle hr' hf'
      | exit j =>
        rw [hx] at hp1
        simp only [Exit.inBlock, Ex.to]
        cases hb : Nat.beq j id with
        | true =>
          simp only [hb, cond_true, Ex.to] at hp1
          rw [if_pos (beq_true.1 hb)]
          exact hp1 ρ' σ' a' w' he hle hr' hf'
        | false =>
          simp only [hb, cond_false, hx, Ex.to] at hp1
          rw [if_neg (beq_false.1 hb)]
          exact hp1 ρ' σ' a' w' he hle hr' hf'
    | loop b =>
      simp only [execCode] at e
      exact wp_of_LoopWp (execLoop_ok (fun st ob outs h => ih b st ob outs h) e hob hr hf hp)
    | scope b =>
      simp only [execCode] at e
      refine wp_scope_straight (ih b st ob outs e _ rfl hob hr hf fun o ho => ?_)
      have hp1 := hp o ho
      intro ρ' σ' a' w' he hle hr' hf'
      have := hp1 ρ' σ' a' w' he hle hr' hf'
      cases hx : o.ex <;> rw [hx] at this <;> exact this
    | rangeFunc _ _ _ _ => simp only [execCode] at e; cases e
    | goto _ => simp only [execCode] at e; cases e
    | refuse _ => simp only [execCode] at e; cases e
/-- THE LAW: a call that the executor runs comes to what it says. -/
theorem execCall_ok {C : Ctx} (hC : CtxOk P I C) {f i : Nat} {fn : Func} (hfn : C.ft i = some fn) {args : List SV} {h : H} {ob : List Obl} {rs : List (SV × H)} (e : execCall C f i args h = some (ob, rs)) :
    CallOk P I i args h ob rs := callIn_ok hC (execCode_ok hC f) i fn hfn args h ob rs e
end Go.SE
end
