import Derived.Test.YtkphkjffcpkhjaaDoorSe21
import Derived.Test.YtkphkjffcpkhjaaDoorSe26
/-! The symbolic executor: contracts: their law. -/
noncomputable section
set_option linter.unusedSimpArgs false
set_option linter.unusedVariables false
namespace Go.SE
open Go.RowKit (Below)
variable {P : Program} {I : Interp}

def CtrOk (P : Program) (I : Interp) (i : Nat) (c : Ctr) : Prop :=
  ∀ (w0 : W0), w0.i = I → ∀ (B : Nat) (ρ : Env) (σ : Pl) (w : World) (vs : List Value), HRep w0 B ρ σ c.h w → VRep ρ σ c.h c.args vs →
    Calls P i vs.toArray w fun e w' => ∃ q ∈ c.outs, ∃ ρ' σ' v, e = .returned v ∧ Ext c.h ρ ρ' σ σ' ∧ c.h.le q.2 ∧ HRep w0 B ρ' σ' q.2 w' ∧ VRep ρ' σ' q.2 [q.1] [v]
theorem CtrOk.of {i : Nat} {c : Ctr} {ob : List Obl} (h : CallOk P I i c.args c.h ob c.outs) (hob : ∀ w, ∀ o ∈ ob, o.ok ⟨w, I⟩) : CtrOk P I i c := by
  intro w0 hw B ρ σ w vs hr hv
  subst hw
  exact h w0 rfl (hob w0.w) B ρ σ w vs hr hv

theorem merge_ok {i : Nat} {args : List SV} {h : H} {ob ob' : List Obl} {rs ts outs : List (SV × H)} (hc : CallOk P I i args h ob rs) (hm : mergeK h rs ts = some ob') (hts : ∀ t ∈ ts, t ∈ outs) :
    CallOk P I i args h (ob ++ ob') outs := by
  intro w0 hw hob B ρ σ w vs hr hv
  refine (hc w0 hw (fun o ho => hob o (List.mem_append_left _ ho)) B ρ σ w vs hr hv).mono ?_
  rintro e w' ⟨q, hq, ρ', σ', v, rfl, hext, hle, hrep, hval⟩
  obtain ⟨t, ht, g, F, L, h1, h2, h3, h4⟩ := mergeK_mem hm q hq
  have hfs := fob_ok (w0 := w0) (fs := q.2.fs) (fun o ho => hob o (List.mem_append_right _ (h4 o ho))) ρ' hrep.now.ip hrep.now.facts
  obtain ⟨k1, k2, k3, k4⟩ := gen_core h1 hrep.now fun c hc => hfs c (List.mem_append_left _ hc)
  refine ⟨t, hts t ht, _, _, v, rfl, hext.trans k1 (fun _ h => h) (fun _ h => h), k2, k3, fun ρ2 σ2 he => ?_⟩
  have e1 := k4 t.1 q.1 L h2 h3 (fun c hc => hfs c (List.mem_append_right _ hc)) ρ2 σ2 he
  have e2 := hval _ _ (Ext.refl _ _ _)
  simp only [List.map_cons, List.map_nil, List.cons.injEq, and_true] at e2 ⊢
  rw [e1, e2]

theorem HOk.lay1 {w0 : W0} {B : Nat} {ρ : Env} {σ : Pl} {h : H} {w : World} (r : HOk w0 B ρ σ h w) : LayOk ⟨w, w0.i⟩ w.heap.size := by
  intro g hg
  obtain ⟨h1, h2⟩ := r.lay g hg
  refine ⟨Nat.lt_of_lt_of_le h1 r.size, fun i hi => ?_⟩
  rw [← h2 i hi]
  exact r.below.cell (p := ⟨g, i, none⟩) h1
theorem use_ok {i : Nat} {c : Ctr} (hc : CtrOk P I i c) {args : List SV} {h : H} {ob : List Obl} {rs : List (SV × H)} (e : useK c args h = some (ob, rs)) : CallOk P I i args h ob rs := by
  unfold useK at e
  simp only at e
  generalize inferK c args h = g at e
  obtain ⟨L, hL, e⟩ := bind1 e
  replace e := (by
    revert e
    cases L.any (fun q => clash (q.1.sub g.f) q.2) with
    | true => intro e; cases e
    | false => exact id : ((viewsK g c.h.nb h.hp c.h.hp).bind fun V => bif prVs c.h.nv L && (prVs c.h.nv V && (g.xs.all (X.vs h.alVb) && (g.bs.all h.alBb && (Nat.beq g.b0 0 && (Nat.beq g.v0 0 && Nat.ble c.h.nb g.bs.length)) && (c.h.still && c.h.fs.all (Fact.vs (blt' c.h.nv)))))) then
      (outsK c g h c.outs).map fun r => (fob h.fs (prF g.f L ++ (prF g.f V ++ c.h.fs.map (Fact.sub g.f))), r)
    else none) = some (ob, rs))
  obtain ⟨V, hV, e⟩ := bind1 e
  obtain ⟨hcond, e⟩ := bndo e
  rw [Option.map_eq_some_iff] at e
  obtain ⟨r, hr', e⟩ := e
  cases e
  simp only [Bool.and_eq_true, beq_true, Nat.ble_eq] at hcond
  obtain ⟨vL, vV, vx, ⟨vb, gb, gv, gl⟩, cs, cf⟩ := hcond
  intro w0 hw hob B ρ σ w vs hr hv
  subst hw
  have hfs := fob_ok (w0 := w0) (fs := h.fs) hob ρ hr.now.ip hr.now.facts
  have pL : ∀ q ∈ L, q.1.den (subE g.f ρ) = q.2.den ρ := prF_ok fun x hx => hfs x (List.mem_append_left _ hx)
  have pV : ∀ q ∈ V, q.1.den (subE g.f ρ) = q.2.den ρ := prF_ok fun x hx => hfs x (List.mem_append_right _ (List.mem_append_left _ hx))
  have pF : ∀ x ∈ c.h.fs, x.ok (subE g.f ρ) := fun x hx => (Fact.ok_sub _ _ _).1 (hfs _ (List.mem_append_right _ (List.mem_append_right _ (List.mem_map_of_mem hx))))
  have vs2 : ∀ (L : Prs), prVs c.h.nv L = true → (∀ q ∈ L, q.1.den (subE g.f ρ) = q.2.den ρ) → ∀ ρ2 σ2, Ext c.h (subE g.f ρ) ρ2 (fun b => σ (g.fb b)) σ2 → ∀ q ∈ L, q.1.den ρ2 = q.2.den ρ := by
    intro L hL hd ρ2 σ2 he q hq
    simp only [prVs, List.all_eq_true] at hL
    rw [← hd q hq]
    exact X.den_vs he.f (fun i hi => he.v i (Or.inl (by simpa [blt', Nat.blt_eq] using hi))) (hL q hq)
  have hnow := hr.now
  -- the callee's view of the world
  have hrep1 : HRep ⟨w, w0.i⟩ w.heap.size (subE g.f ρ) (fun b => σ (g.fb b)) c.h w := by
    intro ρ2 σ2 he
    refine ⟨⟨he.f.trans hnow.ip.1, he.p.trans hnow.ip.2⟩, hnow.lay1, Below.refl _ _, Nat.le_refl _, fun b k hk => ?_, fun b d k l hb hd ok ol _ => ?_, fun x hx => ?_⟩
    · obtain ⟨b1, ks, x, e, t, s, y, rfl, b2, b25, b3⟩ := viewsK_ok hV b k hk
      obtain ⟨q1, q2⟩ := asRows_ok b25 (hnow.blk _ _ b2) hnow.size
      have e1 : σ2 b = σ (g.fb b) := he.b b (Or.inl b1)
      have e2 := vs2 V vV pV ρ2 σ2 he _ b3
      simp only at e2
      exact ⟨by rw [e1]; exact q1, by rw [e2]; simp only [adr, e1] at q2 ⊢; exact q2⟩
    · obtain ⟨_, _, _, _, _, _, _, rfl, _⟩ := viewsK_ok hV b k hb
      cases ok
    · simp only [List.all_eq_true] at cf
      exact (Fact.ok_vs he.f.symm he.p.symm (fun i hi => (he.v i (Or.inl (by simpa [blt', Nat.blt_eq] using hi))).symm) (cf x hx)).1 (pF x hx)
  have hv1 : VRep (subE g.f ρ) (fun b => σ (g.fb b)) c.h c.args vs := by
    intro ρ2 σ2 he
    have e1 := svP_all (fun b hb => he.b b (Or.inl hb)) _ _ _ hL (vs2 L vL pL ρ2 σ2 he)
    rw [vals_eq, vals_eq] at e1
    rw [e1]
    exact hv _ _ (Ext.refl _ _ _)
  refine (hc ⟨w, w0.i⟩ rfl w.heap.size _ _ w vs hrep1 hv1).mono ?_
  rintro e w' ⟨q, hq, ρ', σ', v, rfl, hext, hle, hrep, hval⟩
  obtain ⟨p, hp, ho⟩ := outsK_mem hr' q hq
  have qr := hrep.now
  have vq := hval _ _ (Ext.refl _ _ _)
  simp only [List.map_cons, List.map_nil, List.cons.injEq, and_true] at vq
  unfold outK at ho
  simp only at ho
  obtain ⟨Lv, h1, ho⟩ := bind1 ho
  obtain ⟨news, h2, ho⟩ := bind1 ho
  obtain ⟨h3, ho⟩ := bndo ho
  simp only [Bool.and_eq_true, Nat.ble_eq, List.all_eq_true] at h3
  obtain ⟨pv, qs, le1, le2, qf⟩ := h3
  have gx : ∀ i, i < c.h.nv → ∀ ρ3, ρ3.f = ρ.f → (∀ i, h.alV i → ρ3.v i = ρ.v i) → (g.f i).den ρ3 = (g.f i).den ρ := by
    intro i _ ρ3 hf hv3
    refine X.den_vs (p := h.alVb) hf (fun j hj => hv3 j (H.alVb_iff.1 hj)) ?_
    have hg0 : Nat.blt i g.v0 = false := by rw [gv]; cases hb : Nat.blt i 0 with | false => rfl | true => simp [Nat.blt] at hb
    simp only [Gm.f, hg0, cond_false]
    rw [List.getD_eq_getElem?_getD]
    cases hx : g.xs[i - g.v0]? with
    | none => rfl
    | some x =>
      simp only [List.all_eq_true] at vx
      exact vx x (List.mem_of_getElem? hx)
  -- what the callee's variables and blocks are for the caller
  have main : ∀ (ρ'' : Env) (σ'' : Pl) (h' : H), Ext h ρ ρ'' σ σ'' → h.le h' → h'.hp = news ++ h.hp → h'.fs = newF h.fs (q.2.fs.map (Fact.sub (c.rx g h))) ++ h.fs →
      (∀ ρ3 σ3, Ext h' ρ'' ρ3 σ'' σ3 → (∀ i, i < q.2.nv → ρ'.v i = (c.rx g h i).den ρ3) ∧ (∀ b, b < q.2.nb → σ' b = σ3 (c.rb g h b))) →
      HRep w0 B ρ'' σ'' h' w' ∧ VRep ρ'' σ'' h' [q.1.ren (c.rx g h) (c.rb g h)] [v] := by
    intro ρ'' σ'' h' hx hl hhp hfs' hren
    have hf3 : ∀ ρ3 σ3, Ext h' ρ'' ρ3 σ'' σ3 → ρ'.f = ρ3.f := fun ρ3 σ3 he => by rw [hext.f, he.f, hx.f]; rfl
    have hp3 : ∀ ρ3 σ3, Ext h' ρ'' ρ3 σ'' σ3 → ρ'.p = ρ3.p := fun ρ3 σ3 he => by rw [hext.p, he.p, hx.p]; rfl
    refine ⟨fun ρ3 σ3 he => ?_, fun ρ3 σ3 he => ?_⟩
    · have r3 := hr ρ3 σ3 (hx.trans he hl.v hl.b)
      obtain ⟨hxv, hxb⟩ := hren ρ3 σ3 he
      have hsame : ∀ i, i < w.heap.size → w'.heap[i]? = w.heap[i]? := fun i hi => qr.below.block i hi
      have new : ∀ b k, fget news b = some k → ∃ b0 k0, fget q.2.hp b0 = some k0 ∧ b0 < q.2.nb ∧ b = c.rb g h b0 ∧ (k.own = true → k0.own = true) ∧ BlkOk B ρ3 σ3 w' b k ∧ w.heap.size ≤ (σ3 b).1 := by
        intro b k hn
        obtain ⟨b0, k0, m1, m2, m3, rfl, mk, L', m4, m5⟩ := newsK_ok h2 b k hn
        obtain ⟨n1, n2⟩ := blQ_ok r3.size hxb m3 m4 (prOk_ok m5 (hf3 ρ3 σ3 he) hxv) (qr.blk b0 k0 m1)
        refine ⟨b0, k0, m1, m3, rfl, fun hk => ?_, n1, n2⟩
        subst mk
        cases k0 <;> simp_all [Blk.ren, Blk.own]
      refine ⟨r3.ip, r3.lay, r3.below.trans ⟨qr.below.os, qr.below.tape, qr.below.output, qr.below.size, fun i hi => hsame i (Nat.lt_of_lt_of_le hi r3.size)⟩, Nat.le_trans r3.size qr.size, ?_, ?_, ?_⟩
      · intro b k hk
        rw [hhp, fget_append] at hk
        cases hn : fget news b with
        | some k' =>
          rw [hn] at hk
          cases hk
          obtain ⟨_, _, _, _, _, _, n1, _⟩ := new b k hn
          exact n1
        | none =>
          rw [hn] at hk
          have hk' : fget h.hp b = some k := hk
          have hb := r3.blk b k hk'
          refine hb.congr (hsame _ ?_)
          cases ho : k.own with
          | true => exact (hb.own_ge ho).2
          | false => exact Nat.lt_of_lt_of_le (hb.view_lt ho) r3.size
      · intro b d k l hb hd ok ol e
        rw [hhp, fget_append] at hb hd
        cases hn : fget news b with
        | some k' =>
          rw [hn] at hb
          cases hb
          obtain ⟨b0, k0, n1, n2, rfl, n3, n4, n5⟩ := new b k hn
          cases hm : fget news d with
          | some l' =>
            rw [hm] at hd
            cases hd
            obtain ⟨d0, l0, o1, o2, rfl, o3, o4, o5⟩ := new d l hm
            have := qr.apart b0 d0 k0 l0 n1 o1 (n3 ok) (o3 ol) (by rw [hxb _ n2, hxb _ o2]; exact e)
            rw [this]
          | none =>
            rw [hm] at hd
            have := ((r3.blk d l hd).own_ge ol).2
            omega
        | none =>
          rw [hn] at hb
          cases hm : fget news d with
          | some l' =>
            rw [hm] at hd
            cases hd
            obtain ⟨d0, l0, o1, o2, rfl, o3, o4, o5⟩ := new d l hm
            have := ((r3.blk b k hb).own_ge ok).2
            omega
          | none =>
            rw [hm] at hd
            exact r3.apart b d k l hb hd ok ol e
      · intro x hx
        rw [hfs'] at hx
        simp only [List.mem_append] at hx
        rcases hx with hx | hx
        · simp only [newF, List.mem_filter, List.mem_map] at hx
          obtain ⟨⟨x0, hx0, rfl⟩, _⟩ := hx
          rw [Fact.ok_sub]
          exact (Fact.ok_vs (ρ' := subE (c.rx g h) ρ3) (hf3 ρ3 σ3 he) (hp3 ρ3 σ3 he) (fun i hi => hxv i (by simpa [blt', Nat.blt_eq] using hi)) (qf x0 hx0)).1 (qr.facts x0 hx0)
        · exact r3.facts x hx
    · obtain ⟨hxv, hxb⟩ := hren ρ3 σ3 he
      have := svP_ok hxb _ _ _ h1 (prOk_ok pv (hf3 ρ3 σ3 he) hxv)
      simp only [List.map_cons, List.map_nil, List.cons.injEq, and_true]
      rw [← this, vq]
  have lowv : ∀ ρ3 : Env, ρ3.f = ρ.f → (∀ i, h.alV i → ρ3.v i = ρ.v i) → ∀ i, i < c.h.nv → ρ'.v i = (c.rx g h i).den ρ3 := by
    intro ρ3 hf hv3 i hi
    have hb : Nat.blt i c.h.nv = true := by rw [Nat.blt_eq]; exact hi
    rw [hext.v i (Or.inl hi)]
    simp only [Ctr.rx, hb, cond_true]
    rw [gx i hi ρ3 hf hv3]
    rfl
  have gbs : ∀ b, b < c.h.nb → h.alB (g.fb b) := by
    intro b hb
    have hb0 : Nat.blt b g.b0 = false := by rw [gb]; cases hb : Nat.blt b 0 with | false => rfl | true => simp [Nat.blt] at hb
    simp only [Gm.fb, hb0, cond_false, gb, Nat.sub_zero]
    rw [List.getD_eq_getElem?_getD, List.getElem?_eq_getElem (Nat.lt_of_lt_of_le hb gl)]
    simp only [List.all_eq_true] at vb
    exact H.alBb_iff.1 (vb _ (List.getElem_mem _))
  cases hs : h.still with
  | true =>
    simp only [hs, cond_true, Option.some.injEq] at ho
    subst ho
    let ρ'' : Env := ⟨fun i => bif Nat.blt i h.nv then ρ.v i else ρ'.v (i - h.nv + c.h.nv), ρ.f, ρ.p⟩
    let σ'' : Pl := fun b => bif Nat.blt b h.nb then σ b else σ' (b - h.nb + c.h.nb)
    have hx : Ext h ρ ρ'' σ σ'' := by
      refine ⟨rfl, rfl, fun i hi => ?_, fun b hb => ?_⟩
      · have : Nat.blt i h.nv = true := by rw [Nat.blt_eq]; exact H.still_alV hs hi
        simp only [ρ'', this, cond_true]
      · have : Nat.blt b h.nb = true := by rw [Nat.blt_eq]; exact H.still_alB hs hb
        simp only [σ'', this, cond_true]
    refine ⟨_, hp, ρ'', σ'', v, rfl, hx, ?_, ?_⟩
    · exact ⟨fun i hi => Or.inl (Nat.lt_of_lt_of_le (H.still_alV hs hi) (Nat.le_add_right _ _)), fun i hi => Or.inl (Nat.lt_of_lt_of_le (H.still_alB hs hi) (Nat.le_add_right _ _))⟩
    · refine main ρ'' σ'' _ hx ⟨fun i hi => Or.inl (Nat.lt_of_lt_of_le (H.still_alV hs hi) (Nat.le_add_right _ _)), fun i hi => Or.inl (Nat.lt_of_lt_of_le (H.still_alB hs hi) (Nat.le_add_right _ _))⟩ rfl rfl fun ρ3 σ3 he => ⟨fun i hi => ?_, fun b hb => ?_⟩
      · by_cases hlt : i < c.h.nv
        · refine lowv ρ3 (he.f.trans hx.f) (fun j hj => ?_) i hlt
          rw [he.v j (Or.inl (Nat.lt_of_lt_of_le (H.still_alV hs hj) (Nat.le_add_right _ _))), hx.v j hj]
        · have hb : Nat.blt i c.h.nv = false := by rw [Bool.eq_false_iff, ne_eq, Nat.blt_eq]; exact hlt
          simp only [Ctr.rx, hb, cond_false, X.den]
          rw [he.v _ (Or.inl (by show _ < h.nv + (q.2.nv - c.h.nv); omega))]
          have hb2 : Nat.blt (h.nv + (i - c.h.nv)) h.nv = false := by rw [Bool.eq_false_iff, ne_eq, Nat.blt_eq]; omega
          simp only [ρ'', hb2, cond_false]
          congr 1; omega
      · by_cases hlt : b < c.h.nb
        · have hb' : Nat.blt b c.h.nb = true := by rw [Nat.blt_eq]; exact hlt
          simp only [Ctr.rb, hb', cond_true]
          have h5 := gbs b hlt
          rw [hext.b b (Or.inl hlt), he.b _ (Or.inl (Nat.lt_of_lt_of_le (H.still_alB hs h5) (Nat.le_add_right _ _))), hx.b _ h5]
        · have hb' : Nat.blt b c.h.nb = false := by rw [Bool.eq_false_iff, ne_eq, Nat.blt_eq]; exact hlt
          simp only [Ctr.rb, hb', cond_false]
          rw [he.b _ (Or.inl (by show _ < h.nb + (q.2.nb - c.h.nb); omega))]
          have hb2 : Nat.blt (h.nb + (b - c.h.nb)) h.nb = false := by rw [Bool.eq_false_iff, ne_eq, Nat.blt_eq]; omega
          simp only [σ'', hb2, cond_false]
          congr 1; omega
  | false =>
    simp only [hs, cond_false] at ho
    obtain ⟨h5, ho⟩ := bnd ho
    simp only [Bool.and_eq_true, beq_true] at h5
    obtain ⟨h5, h6, h7⟩ := h5
    have hnil : news = [] := by cases news <;> simp_all
    subst ho
    refine ⟨_, hp, ρ, σ, v, rfl, Ext.refl _ _ _, ⟨fun _ h => h, fun _ h => h⟩, ?_⟩
    refine main ρ σ _ (Ext.refl _ _ _) ⟨fun _ h => h, fun _ h => h⟩ (by rw [hnil]; rfl) rfl fun ρ3 σ3 he => ⟨fun i hi => ?_, fun b hb => ?_⟩
    · exact lowv ρ3 he.f (fun j hj => he.v j hj) i (by omega)
    · have hlt : b < c.h.nb := by omega
      have hb' : Nat.blt b c.h.nb = true := by rw [Nat.blt_eq]; exact hlt
      simp only [Ctr.rb, hb', cond_true]
      rw [hext.b b (Or.inl hlt), he.b _ (gbs b hlt)]

theorem try_ok {i : Nat} : ∀ {cs : List Ctr}, (∀ c ∈ cs, CtrOk P I i c) → ∀ {args : List SV} {h : H} {ob : List Obl} {rs : List (SV × H)}, tryK cs args h = some (ob, rs) → CallOk P I i args h ob rs
  | [], _, args, h, ob, rs, e => by cases e
  | c :: r, hc, args, h, ob, rs, e => by
    simp only [tryK] at e
    split at e
    · rename_i q hq
      cases e
      exact use_ok (hc c List.mem_cons_self) hq
    · exact try_ok (fun c' hc' => hc c' (List.mem_cons_of_mem _ hc')) e
def BookOk (P : Program) (I : Interp) (b : Book) : Prop := ∀ q ∈ b, ∀ c ∈ q.2, CtrOk P I q.1 c
theorem Book.ok {b : Book} (h : BookOk P I b) : ∀ f k, b.hd f = some k → ∀ args hh ob rs, k args hh = some (ob, rs) → CallOk P I f args hh ob rs := by
  intro f k e args hh ob rs e2
  unfold Book.hd at e
  rw [Option.map_eq_some_iff] at e
  obtain ⟨cs, h1, rfl⟩ := e
  exact try_ok (h _ (fget_mem h1)) e2
/-- a contract by the executor: the run, the outcomes brought to the templates, what is to be shown. -/
theorem CtrOk.run {C : Ctx} (hC : CtxOk P I C) {f i : Nat} (hft : (C.ft i).isSome = true) {c : Ctr} {ob ob' : List Obl} {rs ts : List (SV × H)} (e : execCall C f i c.args c.h = some (ob, rs)) (hm : mergeK c.h rs ts = some ob')
    (hts : ∀ t ∈ ts, t ∈ c.outs) (hob : ∀ w, ∀ o ∈ ob ++ ob', o.ok ⟨w, I⟩) : CtrOk P I i c := by
  cases hf : C.ft i with
  | none => simp [hf] at hft
  | some fn => exact .of (merge_ok (execCall_ok hC hf e) hm hts) hob

/-- the same, the outcomes not written out. -/
def runK (C : Ctx) (f i : Nat) (c : Ctr) (ts : List (SV × H)) : Option (List Obl) :=
  (execCall C f i c.args c.h).bind fun q => (mergeK c.h q.2 ts).map fun ob => q.1 ++ ob
theorem CtrOk.run2 {C : Ctx} (hC : CtxOk P I C) {f i : Nat} (hft : (C.ft i).isSome = true) {c : Ctr} {ob : List Obl} {ts : List (SV × H)} (e : runK C f i c ts = some ob)
    (hts : ∀ t ∈ ts, t ∈ c.outs) (hob : ∀ w, ∀ o ∈ ob, o.ok ⟨w, I⟩) : CtrOk P I i c := by
  unfold runK at e
  obtain ⟨q, h1, e⟩ := bind1 e
  rw [Option.map_eq_some_iff] at e
  obtain ⟨ob', h2, rfl⟩ := e
  exact CtrOk.run hC hft (ob := q.1) (rs := q.2) h1 h2 hts hob
end Go.SE
end
