import Derived.Test.YtkphkjffcpkhjaaDoorTie
import Derived.Test.YtkphkjffcpkhjaaDoorCards
import Derived.Test.YtkphkjffcpkhjaaDoorSeD0
import Derived.ProofKit
import Derived.LaidMore
import Derived.OpenShut
import Derived.Stop.Joined
import Derived.Carry
/-! The rows: what is the same for each law. -/
noncomputable section
set_option linter.unusedSimpArgs false
set_option linter.unusedVariables false
namespace Go.SE
open Go.RowKit (Below)
theorem trodAll_below {H : Type} {enc : TypeId × Value → H} {P : Program} (hl : laidOutB P = true) {W W' : World} (hb : Below W.heap.size W W') : ∀ {ts : List TypeId} {vs : List Value} {ds : List (DataW H)} {ps : List MemPlace},
    (∀ t ∈ ts, P.readableRec t = true ∧ t < P.types.size) → DataW.TrodAll enc P W 0 (fun _ => true) true ts vs ds ps → (∀ x ∈ ps, x.block < W.heap.size) → DataW.TrodAll enc P W' 0 (fun b => decide (b < W.heap.size)) true ts vs ds ps
  | [], [], [], ps, _, h, _ => h
  | t :: ts, v :: vs, d :: ds, ps, ht, h, hlt => by
    obtain ⟨p, q, h1, h2, rfl⟩ := h
    exact ⟨p, q, Below.trod hl (ht t List.mem_cons_self).1 (ht t List.mem_cons_self).2 h1 hb (fun x hx => hlt x (List.mem_append_left _ hx)),
      trodAll_below hl hb (fun u hu => ht u (List.mem_cons_of_mem _ hu)) h2 (fun x hx => hlt x (List.mem_append_right _ hx)), rfl⟩
  | [], [], _ :: _, _, _, h, _ => h.elim
  | [], _ :: _, _, _, _, h, _ => h.elim
  | _ :: _, [], _, _, _, h, _ => h.elim
  | _ :: _, _ :: _, [], _, _, h, _ => h.elim
/-- a law that has told true, and turned nothing below. -/
theorem law_post {H : Type} {enc : TypeId × Value → H} {P : Program} (hl : laidOutB P = true) {f : Func} {s : ChangeSpec} {W W' : World} {args : Array Value} {ds gs : List (DataW H)} {before : List MemPlace}
    (hW : DataW.Whole enc P f.params.toList s.vars false W args.toList ds gs before) (hv : s.vars = []) (hts : ∀ t ∈ f.params.toList, P.readableRec t = true ∧ t < P.types.size)
    (hs : s.fn H (ds ++ gs) = { results := [.lit (.bool true)], args := ds }) {tb : TypeId} (hr : f.resultTypes = #[tb]) (htb : P.underlying tb = some .bool) (hb : Below W.heap.size W W') :
    s.post enc P f false true false false W args (.bool true) W' := by
  have hW' := hW
  obtain ⟨p, q, hA, hV, rfl, _, _⟩ := hW
  rw [hv] at hV
  cases gs with
  | cons g gs => exact hV.elim
  | nil =>
    have hq : q = [] := hV
    subst hq
    refine ⟨ds, [], p ++ [], [], p, [], hW', ?_, ?_, ?_, hb.frame _, fun h => by cases h⟩
    · rw [hs, hr]
      exact ChangeShapes.trodAll_mk1 (RowKit.shut_bool htb true)
    · rw [hs]
      exact trodAll_below hl hb hts hA fun x hx => hW'.lt x (List.mem_append_left _ hx)
    · rw [hs, hv]; exact rfl
/-- a memory of views alone, with variables of its own. -/
def viewsOnly (h : H) : Bool :=
  h.still && (h.hp.all (fun q => Nat.blt q.1 h.nb && (match q.2 with | .rows false _ x _ _ => x.vs (blt' h.nv) | _ => false)) && h.fs.all (Fact.vs (blt' h.nv)))
theorem HRep.views {w0 : W0} {B : Nat} {ρ : Env} {σ : Pl} {h : H} {w : World} (hc : viewsOnly h = true) (h0 : HOk w0 B ρ σ h w) : HRep w0 B ρ σ h w := by
  simp only [viewsOnly, Bool.and_eq_true, List.all_eq_true] at hc
  obtain ⟨_, hb, hf⟩ := hc
  intro ρ' σ' he
  have hv : ∀ i, blt' h.nv i = true → ρ'.v i = ρ.v i := fun i hi => he.v i (Or.inl (by simpa [blt', Nat.blt_eq] using hi))
  have view : ∀ b k, fget h.hp b = some k → b < h.nb ∧ ∃ ks x e t, k = .rows false ks x e t ∧ x.vs (blt' h.nv) = true := by
    intro b k hk
    have := hb _ (fget_mem hk)
    rw [Nat.blt_eq] at this
    obtain ⟨h1, h2⟩ := this
    simp only at h1 h2
    split at h2
    · rename_i ks x e t
      exact ⟨h1, ks, x, e, t, rfl, h2⟩
    · cases h2
  refine ⟨⟨he.f.trans h0.ip.1, he.p.trans h0.ip.2⟩, h0.lay, h0.below, h0.size, fun b k hk => ?_, fun b c k l hb' hc' ok ol e => ?_, fun f hf' => ?_⟩
  · obtain ⟨h1, ks, x, e, t, rfl, h2⟩ := view b k hk
    have h3 := h0.blk b _ hk
    have eb : σ' b = σ b := he.b b (Or.inl h1)
    have ex : x.den ρ' = x.den ρ := X.den_vs he.f hv h2
    exact ⟨by rw [eb]; exact h3.1, by rw [ex]; simp only [adr, eb] at h3 ⊢; exact h3.2⟩
  · obtain ⟨_, _, _, _, _, rfl, _⟩ := view b k hb'
    cases ok
  · exact (Fact.ok_vs he.f.symm he.p.symm (fun i hi => (hv i hi).symm) (hf f hf')).1 (h0.facts f hf')
theorem lay_ok {I : Interp} (hI : ∀ u, I.f 999 u = .b (match u with | [.i g] => decide (g = 1) | _ => false)) {W : World} (h : ∀ i, i < 256 → W.cell? ⟨1, i, none⟩ = some (.int .u8 (asciiAt i))) (h1 : 1 < W.heap.size) : LayOk ⟨W, I⟩ W.heap.size := by
  intro g hg
  have hg' : (I.f 999 [.i (g : Int)]).asB = true := hg
  rw [hI] at hg'
  simp only [asB_b, decide_eq_true_eq] at hg'
  have : g = 1 := by omega
  subst this
  exact ⟨h1, h⟩
theorem below_of_shape {P : Program} {w : World} {r : Reach} {base : Nat} {a : Addr} {e : TypeId} {n : Nat} (h : w.has P r base a e n) : a.spot = none ∧ a.block < w.heap.size := by
  obtain ⟨_, h1, row, cells, h2, _⟩ := h
  refine ⟨h1, ?_⟩
  rcases Nat.lt_or_ge a.block w.heap.size with hlt | hge
  · exact hlt
  · unfold World.shape? at h2
    rw [Array.getElem?_eq_none hge] at h2
    simp at h2
theorem below_cell {w : World} {b i : Nat} {v : Value} (h : w.cell? ⟨b, i, none⟩ = some v) : b < w.heap.size := by
  rcases Nat.lt_or_ge b w.heap.size with hlt | hge
  · exact hlt
  · simp [World.cell?, Array.getElem?_eq_none hge] at h
/-- a slice of numbers that came in: nil, or a row that can be read. -/
theorem open_nums {H : Type} {enc : TypeId × Value → H} {P : Program} {w : World} {r : Reach} {b0 : Nat} {t e : TypeId} {k : IntKind} {v : Value} {d : DataW H} {ps : List MemPlace}
    (ht : P.underlying t = some (.slice e)) (hi : P.underlying e = some (.int k)) (hc : P.cellsOf e = 1) (hval : Value.okWide P w r b0 t v) (hd : DataW.Trod enc P w 0 (fun _ => true) true t v d ps) :
    v = .slice none 0 0 ∨ ∃ (b off len cap : Nat) (zs : List Int), v = .slice (some ⟨b, off, none⟩) len cap ∧ b < w.heap.size ∧ len ≤ cap ∧ zs.length = len ∧ (cap : Int) ≤ 9223372036854775807 ∧
      (∀ i, i < len → w.cell? ⟨b, off + i, none⟩ = some (.int k (zs.getD i 0))) ∧ (∀ n ∈ zs, k.min ≤ n ∧ n ≤ k.max) := by
  obtain ⟨a, len, cap, rfl⟩ := WideShapes.okWide_slice ht hval
  obtain ⟨fuel, hf⟩ := hd
  rcases ChangeShapes.open_ints ht hi hc hf with ⟨h1, _⟩ | ⟨a', len', cap', zs, h1, _, h3, _, h5, _, h7, h8⟩
  · left
    simpa [Value.cells] using h1
  · right
    simp [Value.cells] at h1
    obtain ⟨rfl, rfl, rfl⟩ := h1
    have hok : len ≤ cap ∧ (cap : Int) ≤ IntKind.i64.max ∧ w.has P r b0 a' e cap := by
      simpa [Value.okWide, ht, Cell.okWide, Cell.ok] using hval
    obtain ⟨hs, hbl⟩ := below_of_shape hok.2.2
    simp only [if_true] at h5
    obtain ⟨ab, ao, asp⟩ := a'
    simp only at hs hbl
    subst hs
    refine ⟨ab, ao, len, cap, zs.take len, rfl, hbl, h3, by simp; omega, ?_, fun i hi' => ?_, fun n hn => ?_⟩
    · have : IntKind.i64.max = 9223372036854775807 := by decide
      omega
    · have := h7 i (by omega)
      rw [show (zs.take len).getD i 0 = zs.getD i 0 by simp [List.getD_eq_getElem?_getD, List.getElem?_take, hi']]
      have e : (⟨ab, ao, none⟩ : Addr).add i = ⟨ab, ao + i, none⟩ := by
        simp only [Addr.add]
        by_cases hi0 : i = 0 <;> simp [hi0]
      rw [e] at this
      exact this
    · have := h8 n (List.mem_of_mem_take hn)
      simpa [Lit.wf] using this
/-- a slice of rows of truth values that came in. -/
theorem open_boolrows {H : Type} {enc : TypeId × Value → H} {P : Program} {w : World} {r : Reach} {b0 n : Nat} {t e tb : TypeId} {v : Value} {d : DataW H} {ps : List MemPlace}
    (ht : P.underlying t = some (.slice e)) (he : P.underlying e = some (.array n tb)) (hb : P.underlying tb = some .bool) (hcb : P.cellsOf tb = 1) (hce : P.cellsOf e = n) (hval : Value.okWide P w r b0 t v) (hd : DataW.Trod enc P w 0 (fun _ => true) true t v d ps) :
    v = .slice none 0 0 ∨ ∃ (b off len cap : Nat) (zs : Nat → Nat → Bool), v = .slice (some ⟨b, off, none⟩) len cap ∧ b < w.heap.size ∧ len ≤ cap ∧ (cap : Int) ≤ 9223372036854775807 ∧
      (∀ i j, i < len → j < n → w.cell? ⟨b, off + (i * n + j), none⟩ = some (.bool (zs i j))) := by
  obtain ⟨a, len, cap, rfl⟩ := WideShapes.okWide_slice ht hval
  obtain ⟨fuel, hf⟩ := hd
  rcases DataW.trod_slice ht hf with ⟨h1, _⟩ | ⟨a', len', cap', elems, rest, m, _, h1, _, _, h3, _, h5, h6, _, _⟩
  · left
    simpa [Value.cells] using h1
  · right
    simp [Value.cells] at h1
    obtain ⟨rfl, rfl, rfl⟩ := h1
    have hok : len ≤ cap ∧ (cap : Int) ≤ IntKind.i64.max ∧ w.has P r b0 a' e cap := by
      simpa [Value.okWide, ht, Cell.okWide, Cell.ok] using hval
    obtain ⟨hs, hbl⟩ := below_of_shape hok.2.2
    obtain ⟨ab, ao, asp⟩ := a'
    simp only at hs hbl
    subst hs
    have hadd : ∀ (o i : Nat), (⟨ab, o, none⟩ : Addr).add i = ⟨ab, o + i, none⟩ := by
      intro o i
      simp only [Addr.add]
      by_cases hi0 : i = 0 <;> simp [hi0]
    refine ⟨ab, ao, len, cap, fun i j => match w.cell? ⟨ab, ao + (i * n + j), none⟩ with | some (.bool x) => x | _ => false, rfl, hbl, h3, ?_, fun i j hi hj => ?_⟩
    · have : IntKind.i64.max = 9223372036854775807 := by decide
      omega
    · have h7 := h6 i hi
      rw [List.getElem?_eq_getElem (by omega), Option.bind_eq_some_iff] at h7
      obtain ⟨cs', hcs, hy⟩ := h7
      obtain ⟨_, hcl, hcell⟩ := World.cells?_some hcs
      obtain ⟨xs, m1, _, _, _, hxl, hel⟩ := DataW.trod_array he hy
      have h8 := hel j hj
      rw [hcb, List.getElem?_eq_getElem (by omega), Nat.mul_one] at h8
      obtain ⟨x, hx, _⟩ := DataW.trod_bool hb h8
      have h9 : cs'[j]? = some (.bool x) := by
        have : ((cs'.drop j).take 1)[0]? = some (.bool x) := by rw [hx]; rfl
        simpa using this
      have h10 := hcell j (by omega)
      rw [hce, hadd, hadd, h9, Nat.add_assoc] at h10
      simp only [h10]
theorem start_none {I : Interp} (hI : ∀ u, I.f 999 u = .b (match u with | [.i g] => decide (g = 1) | _ => false)) {W : World} (hl : ∀ i, i < 256 → W.cell? ⟨1, i, none⟩ = some (.int .u8 (asciiAt i))) (h1 : 1 < W.heap.size)
    {h : H} (hv : viewsOnly h = true) (hhp : h.hp = []) {ρ : Env} {σ : Pl} (hf : ρ.f = I.f) (hp : ρ.p = I.p) (hfs : ∀ f ∈ h.fs, f.ok ρ) : HRep ⟨W, I⟩ W.heap.size ρ σ h W :=
  HRep.views hv ⟨⟨hf, hp⟩, lay_ok hI hl h1, Below.refl _ _, Nat.le_refl _, fun b k hk => (by rw [hhp] at hk; cases hk), fun b c k l hb => (by rw [hhp] at hb; cases hb), hfs⟩
theorem start_one {I : Interp} (hI : ∀ u, I.f 999 u = .b (match u with | [.i g] => decide (g = 1) | _ => false)) {W : World} (hl : ∀ i, i < 256 → W.cell? ⟨1, i, none⟩ = some (.int .u8 (asciiAt i))) (h1 : 1 < W.heap.size)
    {h : H} (hv : viewsOnly h = true) {ks : List CK} {x : X} {e : TypeId} {t : X} (hhp : h.hp = [(0, .rows false ks x e t)]) {ρ : Env} (hf : ρ.f = I.f) (hp : ρ.p = I.p) {b off : Nat} (hb : b < W.heap.size)
    (hc : ∀ (r j : Nat) (k : CK), r < (x.den ρ).asL.length → ks[j]? = some k → W.cell? ⟨b, off + (r * ks.length + j), none⟩ = some (k.val (rowU ks.length ((x.den ρ).asL.getD r default) j))) (hfs : ∀ f ∈ h.fs, f.ok ρ) :
    HRep ⟨W, I⟩ W.heap.size ρ (fun _ => (b, off)) h W := by
  refine HRep.views hv ⟨⟨hf, hp⟩, lay_ok hI hl h1, Below.refl _ _, Nat.le_refl _, fun i k hk => ?_, fun i c k l hb' _ ok => ?_, hfs⟩
  · rw [hhp, fget_cons, fget_nil] at hk
    cases h0 : Nat.beq 0 i with
    | false => rw [h0] at hk; cases hk
    | true => rw [h0] at hk; cases hk; exact ⟨hb, hc⟩
  · rw [hhp, fget_cons, fget_nil] at hb'
    cases h0 : Nat.beq 0 i with
    | false => rw [h0] at hb'; cases hb'
    | true => rw [h0] at hb'; cases hb'; cases ok
def boolRows (len n : Nat) (zs : Nat → Nat → Bool) : U := .l ((List.range len).map fun i => .l ((List.range n).map fun j => .b (zs i j)))
theorem boolRows_cell {W : World} {b off len n : Nat} {zs : Nat → Nat → Bool} (hn : Nat.beq n 1 = false) (hc : ∀ i j, i < len → j < n → W.cell? ⟨b, off + (i * n + j), none⟩ = some (.bool (zs i j))) :
    ∀ (r j : Nat) (k : CK), r < (boolRows len n zs).asL.length → (List.replicate n CK.bool)[j]? = some k → W.cell? ⟨b, off + (r * (List.replicate n CK.bool).length + j), none⟩ = some (k.val (rowU (List.replicate n CK.bool).length ((boolRows len n zs).asL.getD r default) j)) := by
  intro r j k hr hj
  have hr' : r < len := by simpa [boolRows] using hr
  have hj' : j < n := by have := (List.getElem?_eq_some_iff.1 hj).1; simpa using this
  have hk : k = .bool := by rw [List.getElem?_replicate] at hj; simp [hj'] at hj; exact hj.symm
  subst hk
  rw [List.length_replicate, hc r j hr' hj']
  simp [boolRows, rowU, hn, CK.val, List.getD_eq_getElem?_getD, hr', hj']
theorem told_true {I : Interp} {h : H} {W w' : World} {ρ : Env} {σ : Pl} {c : Ctr} (hc : c.outs = [(.bool (.t true), h)]) {e : Ending}
    (he : ∃ q ∈ c.outs, ∃ ρ' σ' v, e = .returned v ∧ Ext c.h ρ ρ' σ σ' ∧ c.h.le q.2 ∧ HRep ⟨W, I⟩ W.heap.size ρ' σ' q.2 w' ∧ VRep ρ' σ' q.2 [q.1] [v]) : e = .returned (.bool true) ∧ Below W.heap.size W w' := by
  obtain ⟨q, hq, ρ', σ', v, rfl, _, _, h4, h5⟩ := he
  rw [hc, List.mem_singleton] at hq
  subst hq
  have := h5 _ _ (Ext.refl _ _ _)
  simp only [List.map_cons, List.map_nil, SV.val, X.den, asB_b, List.cons.injEq, and_true] at this
  exact ⟨by rw [← this], h4.now.below⟩
end Go.SE
namespace Go.Proofs.YtkphkjffcpkhjaaDoor
open Go Go.SE
open Go.ChangeShapes Go.WideShapes Go.ChangeAt Go.RowKit
set_option maxRecDepth 1000000
theorem own : ownKnob Tryd.prog.godebug = none := by kernel_rfl
theorem laidOut : laidOutB Tryd.prog = true := by kernel_rfl
theorem gAscii : Tryd.prog.globalNamed "strings.asciiSpace" = some 1 := by kernel_rfl
theorem tAscii : (Tryd.prog.globals[1]?).map (·.type) = some 139 := by kernel_rfl
theorem ascii_data {H : Type} : (Rows.laid_strings_asciiSpace : DataW H) = .agg ((List.range 256).map fun i => .lit (.int .u8 (asciiAt i))) := by rfl
/-- what the listed variables give: the table of blanks. -/
theorem of_laid {W : World} (h : laidMetH Tryd.prog Rows.fbEverRow.laid W) : ∀ i, i < 256 → W.cell? ⟨1, i, none⟩ = some (.int .u8 (asciiAt i)) := by
  rw [MakeChecks.laidMetH_plain _ _ _ (by kernel_rfl)] at h
  obtain ⟨ps, ⟨g0, t0, cs0, f0, p0, q0, hg0, ht0, hv0, hd0, ⟨g1, t1, cs1, f1, p1, q1, hg1, ht1, hv1, hd1, _, _⟩, _⟩, _, _⟩ := h
  obtain rfl := Option.some.inj (gAscii.symm.trans hg1)
  obtain rfl := Option.some.inj (tAscii.symm.trans ht1)
  obtain ⟨xs, m1, rfl, hx1, hlen, hn3, hel⟩ := DataW.trod_array Tryd.underlying139 hd1
  have c5 : Tryd.prog.cellsOf 5 = 1 := by kernel_rfl
  simp only [Prod.mk.injEq] at hx1
  rw [ascii_data] at hx1
  simp only [DataW.agg.injEq] at hx1
  intro i hi
  have h0 := hel i hi
  have hxi : i < xs.length := by omega
  rw [List.getElem?_eq_getElem hxi] at h0
  obtain ⟨k, e1, e2, _⟩ := DataW.trod_int Tryd.underlying5 h0
  have e3 : (xs.map (·.1))[i]? = some (.lit (.int .u8 k)) := by rw [List.getElem?_map, List.getElem?_eq_getElem hxi, e2]; rfl
  rw [← hx1.1] at e3
  rw [List.getElem?_map, List.getElem?_range hi] at e3
  simp only [Option.map_some, Option.some.injEq, DataW.lit.injEq, Lit.int.injEq, true_and] at e3
  subst e3
  have := World.var?_cell hg1 hv1 i
  rw [this]
  rw [c5] at e1
  have e4 : cs1.toList[i]? = some (.int .u8 (asciiAt i)) := by
    have : ((cs1.toList.drop (i * 1)).take 1)[0]? = some (.int .u8 (asciiAt i)) := by rw [e1]; rfl
    simpa using this
  simpa using e4
end Go.Proofs.YtkphkjffcpkhjaaDoor
end
