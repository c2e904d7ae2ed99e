/- FbDelays: called with any list of truth values, any list of bytes and any byte, the law tells true, and each argument reads behind the call as it read before. Conditions: those of the given row: the two listed variables read as the program lays them (the card ties that to its text). -/
import Derived.Test.YtkphkjffcpkhjaaDoorSeR6M2
import Derived.Test.YtkphkjffcpkhjaaDoorSeR6M6
import Derived.SevenTiedAt
/-! FbDelays: the row, the card. -/
noncomputable section
set_option linter.unusedSimpArgs false
set_option linter.unusedVariables false
namespace Go.SE
open Go.RowKit (Below)
theorem start_views {I : Interp} (hI : ∀ u, I.f 999 u = .b (match u with | [.i g] => decide (g = 1) | _ => false)) {W : World} (hl : ∀ i, i < 256 → W.cell? ⟨1, i, none⟩ = some (.int .u8 (asciiAt i))) (h1 : 1 < W.heap.size)
    {h : H} (hv : viewsOnly h = true) {ρ : Env} {σ : Pl} (hf : ρ.f = I.f) (hp : ρ.p = I.p)
    (hk : ∀ i k, fget h.hp i = some k → ∃ ks x e t, k = .rows false ks x e t ∧ (σ i 0).1 < W.heap.size ∧ ∀ (r j : Nat) (k : CK), r < (x.den ρ).asL.length → ks[j]? = some k → W.cell? ⟨(σ i 0).1, (σ i 0).2 + (r * ks.length + j), none⟩ = some (k.val (rowU ks.length ((x.den ρ).asL.getD r default) j)))
    (hfs : ∀ f ∈ h.fs, f.ok ρ) : HRep ⟨W, I⟩ (· < W.heap.size) ρ σ h W := by
  refine HRep.views hv ⟨⟨hf, hp⟩, lay_ok hI hl h1, Bel.refl _ _, fun _ h => h, fun i k hg => ?_, fun i c k l _ _ hb' _ ok => ?_, fun c p s ks x hc => ?_, hfs⟩
  · obtain ⟨ks, x, e, t, rfl, h2, h3⟩ := hk i k hg
    exact ⟨h2, h3⟩
  · obtain ⟨ks, x, e, t, rfl, _⟩ := hk i _ hb'
    cases Blk.has_own ok
  · obtain ⟨ks, x, e, t, h, _⟩ := hk c _ hc
    cases h
def boolList (len : Nat) (zs : Nat → Bool) : U := .l ((List.range len).map fun i => .b (zs i))
theorem boolList_cell {W : World} {b off len : Nat} {zs : Nat → Bool} (hc : ∀ i, i < len → W.cell? ⟨b, off + i, none⟩ = some (.bool (zs i))) :
    ∀ (r j : Nat) (k : CK), r < (boolList len zs).asL.length → ([CK.bool] : List CK)[j]? = some k → W.cell? ⟨b, off + (r * ([CK.bool] : List CK).length + j), none⟩ = some (k.val (rowU ([CK.bool] : List CK).length ((boolList len zs).asL.getD r default) j)) := by
  intro r j k hr hj
  have hr' : r < len := by simpa [boolList] using hr
  have hj0 : j = 0 := by have := (List.getElem?_eq_some_iff.1 hj).1; simpa using this
  subst hj0
  simp only [List.getElem?_cons_zero, Option.some.injEq] at hj
  subst hj
  rw [List.length_singleton, Nat.mul_one, Nat.add_zero, hc r hr']
  simp [boolList, rowU, CK.val, List.getD_eq_getElem?_getD, hr']
theorem numList_cell {W : World} {k0 : IntKind} {b off len : Nat} {ys : List Int} (hl : ys.length = len) (hc : ∀ i, i < len → W.cell? ⟨b, off + i, none⟩ = some (.int k0 (ys.getD i 0))) :
    ∀ (r j : Nat) (k : CK), r < (U.l (ys.map U.i)).asL.length → ([CK.int k0] : List CK)[j]? = some k → W.cell? ⟨b, off + (r * ([CK.int k0] : List CK).length + j), none⟩ = some (k.val (rowU ([CK.int k0] : List CK).length ((U.l (ys.map U.i)).asL.getD r default) j)) := by
  intro r j k hr hj
  have hr' : r < ys.length := by simpa using hr
  have hj0 : j = 0 := by have := (List.getElem?_eq_some_iff.1 hj).1; simpa using this
  subst hj0
  simp only [List.getElem?_cons_zero, Option.some.injEq] at hj
  subst hj
  rw [List.length_singleton, Nat.mul_one, Nat.add_zero, hc r (by omega)]
  simp [rowU, CK.val, List.getD_eq_getElem?_getD, hr']
theorem numList_range {ys : List Int} {a b : Int} (h : ∀ n ∈ ys, a ≤ n ∧ n ≤ b) (ha : a ≤ 0 := by decide) (hb : 0 ≤ b := by decide) (j : Nat) : a ≤ ((U.l (ys.map U.i)).asL.getD j default).asI ∧ ((U.l (ys.map U.i)).asL.getD j default).asI ≤ b := by
  simp only [asL_l, List.getD_eq_getElem?_getD, List.getElem?_map]
  cases hj : ys[j]? with
  | none => exact ⟨ha, hb⟩
  | some n => exact h n (List.mem_of_getElem? hj)
/-- a slice of truth values that came in. -/
theorem open_bools {H : Type} {enc : TypeId × Value → H} {P : Program} {w : World} {r : Reach} {b0 : Nat} {t e : TypeId} {v : Value} {d : DataW H} {ps : List MemPlace}
    (ht : P.underlying t = some (.slice e)) (hb : P.underlying e = some .bool) (hce : P.cellsOf e = 1) (hval : Value.okWide P w r b0 t v) (hd : DataW.Trod enc P w 0 (fun _ => true) true t v d ps) :
    v = .slice none 0 0 ∨ ∃ (b off len cap : Nat) (zs : Nat → Bool), v = .slice (some ⟨b, off, none⟩) len cap ∧ b < w.heap.size ∧ len ≤ cap ∧ (cap : Int) ≤ 9223372036854775807 ∧
      (∀ i, i < len → w.cell? ⟨b, off + i, none⟩ = some (.bool (zs i))) := by
  obtain ⟨a, len, cap, rfl⟩ := WideShapes.okWide_slice ht hval
  obtain ⟨fuel, hf⟩ := hd
  rcases DataW.trod_slice ht hf with ⟨h1, _⟩ | ⟨a', len', cap', elems, rest, m, _, h1, _, _, h3, _, h5, h6, _, _⟩
  · left
    simpa [Value.cells] using h1
  · right
    simp [Value.cells] at h1
    obtain ⟨rfl, rfl, rfl⟩ := h1
    have hok : len ≤ cap ∧ (cap : Int) ≤ IntKind.i64.max ∧ w.has P r b0 a' e cap := by
      simpa [Value.okWide, ht, Cell.okWide, Cell.ok] using hval
    obtain ⟨hs, hbl⟩ := below_of_shape hok.2.2
    obtain ⟨ab, ao, asp⟩ := a'
    simp only at hs hbl
    subst hs
    have hadd : ∀ (o i : Nat), (⟨ab, o, none⟩ : Addr).add i = ⟨ab, o + i, none⟩ := by
      intro o i
      simp only [Addr.add]
      by_cases hi0 : i = 0 <;> simp [hi0]
    refine ⟨ab, ao, len, cap, fun i => match w.cell? ⟨ab, ao + i, none⟩ with | some (.bool x) => x | _ => false, rfl, hbl, h3, ?_, fun i hi => ?_⟩
    · have : IntKind.i64.max = 9223372036854775807 := by decide
      omega
    · have h7 := h6 i hi
      rw [List.getElem?_eq_getElem (by omega), Option.bind_eq_some_iff] at h7
      obtain ⟨cs', hcs, hy⟩ := h7
      obtain ⟨_, hcl, hcell⟩ := World.cells?_some hcs
      obtain ⟨x, hx, _⟩ := DataW.trod_bool hb hy
      have h10 := hcell 0 (by omega)
      rw [hce, Nat.mul_one, hadd, hadd, hx, Nat.add_zero] at h10
      simp only [h10]
      rfl
end Go.SE
namespace Go.Proofs.YtkphkjffcpkhjaaDoor
open Go Go.SE
open Go.ChangeShapes Go.WideShapes Go.ChangeAt Go.RowKit
set_option maxRecDepth 1000000
theorem fbDelays_nn {W : World} (hl : ∀ i, i < 256 → W.cell? ⟨1, i, none⟩ = some (.int .u8 (asciiAt i))) (h1 : 1 < W.heap.size) (p : Int) (hp : 0 ≤ p ∧ p ≤ 255) :
    Calls Tryd.prog 3 #[.slice none 0 0, .slice none 0 0, .int .u8 p] W fun e w' => e = .returned (.bool true) ∧ Below W.heap.size W w' := by
  let ρ : Env := ⟨fun i => match i with | 0 => default | 1 => default | 2 => default | 3 => default | 4 => .i p | _ => default, fbD, pD⟩
  let σ : Pl := fun _ _ => (0, 0)
  refine (del_true_true_ok ⟨W, IDl⟩ rfl (· < W.heap.size) ρ σ W [.slice none 0 0, .slice none 0 0, .int .u8 p] (start_views (fun u => fbD_999 u) hl h1 (by rfl) rfl rfl (fun i k hk => ?_) fun f hf => ?_) fun ρ' σ' he => ?_).mono fun e w' h => told_true rfl h
  · cases hk
  · simp only [delK, List.mem_cons, List.not_mem_nil, or_false] at hf
    rcases hf with rfl | rfl
    · exact ⟨fun j => by rw [show ((X.v 1).den ρ).asL = (U.l (([] : List Int).map U.i)).asL from rfl]; exact numList_range (fun _ h => by cases h) (j := j), hp⟩
    · rfl
  · have e4 : ρ'.v 4 = .i p := he.v 4 (Or.inl (by decide))
    simp [delK, i64, lenV, SV.val, X.nat, X.den, den_len, adr, e4]
theorem fbDelays_nr {W : World} (hl : ∀ i, i < 256 → W.cell? ⟨1, i, none⟩ = some (.int .u8 (asciiAt i))) (h1 : 1 < W.heap.size) (p : Int) (hp : 0 ≤ p ∧ p ≤ 255) {b' off' len' cap' : Nat} {ys : List Int} (hb' : b' < W.heap.size) (hl' : ys.length = len') (hc' : ∀ i, i < len' → W.cell? ⟨b', off' + i, none⟩ = some (.int .u8 (ys.getD i 0))) (hy : ∀ n ∈ ys, 0 ≤ n ∧ n ≤ 255) :
    Calls Tryd.prog 3 #[.slice none 0 0, .slice (some ⟨b', off', none⟩) len' cap', .int .u8 p] W fun e w' => e = .returned (.bool true) ∧ Below W.heap.size W w' := by
  let ρ : Env := ⟨fun i => match i with | 0 => default | 1 => .l (ys.map U.i) | 2 => default | 3 => .i cap' | 4 => .i p | _ => default, fbD, pD⟩
  let σ : Pl := fun _ _ => (b', off')
  refine (del_true_false_ok ⟨W, IDl⟩ rfl (· < W.heap.size) ρ σ W [.slice none 0 0, .slice (some ⟨b', off', none⟩) len' cap', .int .u8 p] (start_views (fun u => fbD_999 u) hl h1 (by rfl) rfl rfl (fun i k hk => ?_) fun f hf => ?_) fun ρ' σ' he => ?_).mono fun e w' h => told_true rfl h
  · have hk' := fget_mem hk
    simp only [delK, cond_true, cond_false, List.cons_append, List.nil_append, List.append_nil, List.mem_cons, List.not_mem_nil, or_false, Prod.mk.injEq] at hk'
    obtain ⟨rfl, rfl⟩ := hk'
    · exact ⟨_, _, _, _, rfl, hb', numList_cell hl' hc'⟩
  · simp only [delK, List.mem_cons, List.not_mem_nil, or_false] at hf
    rcases hf with rfl | rfl
    · exact ⟨numList_range hy, hp⟩
    · rfl
  · have e4 : ρ'.v 4 = .i p := he.v 4 (Or.inl (by decide))
    have e1 : ρ'.v 1 = .l (ys.map U.i) := he.v 1 (Or.inl (by decide))
    have e3 : ρ'.v 3 = .i cap' := he.v 3 (Or.inl (by decide))
    have ec : σ' 0 = fun _ => (b', off') := he.b 0 (Or.inl (by decide))
    simp [delK, i64, lenV, SV.val, X.nat, X.den, den_len, adr, e4, e1, e3, ec, hl']
theorem fbDelays_rn {W : World} (hl : ∀ i, i < 256 → W.cell? ⟨1, i, none⟩ = some (.int .u8 (asciiAt i))) (h1 : 1 < W.heap.size) (p : Int) (hp : 0 ≤ p ∧ p ≤ 255) {b off len cap : Nat} {zs : Nat → Bool} (hb : b < W.heap.size) (hc : ∀ i, i < len → W.cell? ⟨b, off + i, none⟩ = some (.bool (zs i))) :
    Calls Tryd.prog 3 #[.slice (some ⟨b, off, none⟩) len cap, .slice none 0 0, .int .u8 p] W fun e w' => e = .returned (.bool true) ∧ Below W.heap.size W w' := by
  let ρ : Env := ⟨fun i => match i with | 0 => boolList len zs | 1 => default | 2 => .i cap | 3 => default | 4 => .i p | _ => default, fbD, pD⟩
  let σ : Pl := fun _ _ => (b, off)
  refine (del_false_true_ok ⟨W, IDl⟩ rfl (· < W.heap.size) ρ σ W [.slice (some ⟨b, off, none⟩) len cap, .slice none 0 0, .int .u8 p] (start_views (fun u => fbD_999 u) hl h1 (by rfl) rfl rfl (fun i k hk => ?_) fun f hf => ?_) fun ρ' σ' he => ?_).mono fun e w' h => told_true rfl h
  · have hk' := fget_mem hk
    simp only [delK, cond_true, cond_false, List.cons_append, List.nil_append, List.append_nil, List.mem_cons, List.not_mem_nil, or_false, Prod.mk.injEq] at hk'
    obtain ⟨rfl, rfl⟩ := hk'
    · exact ⟨_, _, _, _, rfl, hb, boolList_cell hc⟩
  · simp only [delK, List.mem_cons, List.not_mem_nil, or_false] at hf
    rcases hf with rfl | rfl
    · exact ⟨fun j => by rw [show ((X.v 1).den ρ).asL = (U.l (([] : List Int).map U.i)).asL from rfl]; exact numList_range (fun _ h => by cases h) (j := j), hp⟩
    · rfl
  · have e4 : ρ'.v 4 = .i p := he.v 4 (Or.inl (by decide))
    have e0 : ρ'.v 0 = boolList len zs := he.v 0 (Or.inl (by decide))
    have e2 : ρ'.v 2 = .i cap := he.v 2 (Or.inl (by decide))
    have eb : σ' 0 = fun _ => (b, off) := he.b 0 (Or.inl (by decide))
    have el : (boolList len zs).asL.length = len := by simp [boolList]
    simp [delK, i64, lenV, SV.val, X.nat, X.den, den_len, adr, e4, e0, e2, eb, el]
theorem fbDelays_rr {W : World} (hl : ∀ i, i < 256 → W.cell? ⟨1, i, none⟩ = some (.int .u8 (asciiAt i))) (h1 : 1 < W.heap.size) (p : Int) (hp : 0 ≤ p ∧ p ≤ 255) {b off len cap : Nat} {zs : Nat → Bool} (hb : b < W.heap.size) (hc : ∀ i, i < len → W.cell? ⟨b, off + i, none⟩ = some (.bool (zs i))) {b' off' len' cap' : Nat} {ys : List Int} (hb' : b' < W.heap.size) (hl' : ys.length = len') (hc' : ∀ i, i < len' → W.cell? ⟨b', off' + i, none⟩ = some (.int .u8 (ys.getD i 0))) (hy : ∀ n ∈ ys, 0 ≤ n ∧ n ≤ 255) :
    Calls Tryd.prog 3 #[.slice (some ⟨b, off, none⟩) len cap, .slice (some ⟨b', off', none⟩) len' cap', .int .u8 p] W fun e w' => e = .returned (.bool true) ∧ Below W.heap.size W w' := by
  let ρ : Env := ⟨fun i => match i with | 0 => boolList len zs | 1 => .l (ys.map U.i) | 2 => .i cap | 3 => .i cap' | 4 => .i p | _ => default, fbD, pD⟩
  let σ : Pl := fun k _ => if k = 0 then (b, off) else (b', off')
  refine (del_false_false_ok ⟨W, IDl⟩ rfl (· < W.heap.size) ρ σ W [.slice (some ⟨b, off, none⟩) len cap, .slice (some ⟨b', off', none⟩) len' cap', .int .u8 p] (start_views (fun u => fbD_999 u) hl h1 (by rfl) rfl rfl (fun i k hk => ?_) fun f hf => ?_) fun ρ' σ' he => ?_).mono fun e w' h => told_true rfl h
  · have hk' := fget_mem hk
    simp only [delK, cond_true, cond_false, List.cons_append, List.nil_append, List.append_nil, List.mem_cons, List.not_mem_nil, or_false, Prod.mk.injEq] at hk'
    rcases hk' with ⟨rfl, rfl⟩ | ⟨rfl, rfl⟩
    · exact ⟨_, _, _, _, rfl, hb', numList_cell hl' hc'⟩
    · exact ⟨_, _, _, _, rfl, hb, boolList_cell hc⟩
  · simp only [delK, List.mem_cons, List.not_mem_nil, or_false] at hf
    rcases hf with rfl | rfl
    · exact ⟨numList_range hy, hp⟩
    · rfl
  · have e4 : ρ'.v 4 = .i p := he.v 4 (Or.inl (by decide))
    have e0 : ρ'.v 0 = boolList len zs := he.v 0 (Or.inl (by decide))
    have e2 : ρ'.v 2 = .i cap := he.v 2 (Or.inl (by decide))
    have eb : σ' 0 = fun _ => (b, off) := he.b 0 (Or.inl (by decide))
    have el : (boolList len zs).asL.length = len := by simp [boolList]
    have e1 : ρ'.v 1 = .l (ys.map U.i) := he.v 1 (Or.inl (by decide))
    have e3 : ρ'.v 3 = .i cap' := he.v 3 (Or.inl (by decide))
    have ec : σ' 1 = fun _ => (b', off') := he.b 1 (Or.inl (by decide))
    simp [delK, i64, lenV, SV.val, X.nat, X.den, den_len, adr, e4, e0, e2, eb, el, e1, e3, ec, hl']
theorem fbDelays_door (os : Os) (args : Array Value) : laidMetH Tryd.prog Rows.fbDelaysRow.laid ((World.doorLaid Tryd.prog 400 os).forCall (fun _ _ => 0) ⟨#[], args, []⟩).memory :=
  laidMetH_of_parts3 (fuel := 8) (laidMet_of_run' 8 (by kernel_rfl) (by kernel_rfl)) (by kernel_rfl) (by kernel_rfl)
theorem fbDelays_lifted (os : Os) (started : os.Started) (H : Type) (enc : TypeId × Value → H) :
    ReturnsInHanded {} Tryd.checked os 3 .any (fun w args => (Rows.fbDelaysSpec.pre enc Tryd.prog Tryd.f3 [] false w args ∧ laidMetH Tryd.prog Rows.fbDelaysRow.laid w) ∧ sizedMet enc Tryd.prog Tryd.f3 (OpenSpec.ofChange Rows.fbDelaysSpec) false w args)
      (Rows.fbDelaysSpec.post enc Tryd.prog Tryd.f3 false true false false) := by
  refine returnsInHanded_of_change_and (C := Tryd.checked) (X := fun w _ => laidMetH Tryd.prog Rows.fbDelaysRow.laid w) (fun _ _ _ hh h => h.of_heap hh) own started (by kernel_rfl) Tryd.func3
    (ChangeSpec.witness_shaped (enc := enc) (C := Tryd.checked) (os := os) (X := fun w _ => laidMetH Tryd.prog Rows.fbDelaysRow.laid w) false (World.doorLaid Tryd.prog 400 os) #[.slice none 0 0, .slice none 0 0, .int .u8 0] 8 rfl (World.shaped_of_RefB (by kernel_rfl) (by kernel_rfl)) (by kernel_rfl) (by kernel_rfl) (by kernel_rfl) (fbDelays_door os _)) ?_
  intro W base args ds gs before hval0 hW _ _ hL _
  have hval : ∀ (j : Nat) t v, Tryd.f3.params[j]? = some t → args[j]? = some v → Value.okWide Tryd.prog W .any base t v := hval0
  have hW' := hW
  obtain ⟨p, q, hA0, hV, rfl, hfz, hnd⟩ := hW
  have hA : DataW.TrodAll enc Tryd.prog W 0 (fun _ => true) true Tryd.f3.params.toList args.toList ds p := hA0
  rw [Tryd.params3] at hA hval
  obtain ⟨v0, v1, v2, d0, d1, d2, p0, p1, p2, rfl, rfl, rfl, h0, h1, h2⟩ := trodAll_three hA
  have hlaid := of_laid hL
  have hsz : 1 < W.heap.size := below_cell (hlaid 0 (by decide))
  obtain ⟨rfl, rfl⟩ := trodVars_none hV
  obtain ⟨n, rfl, _, _, hn⟩ := open_int Tryd.underlying5 (hval 2 5 v2 rfl rfl) h2
  have hn' : 0 ≤ n ∧ n ≤ 255 := by
    have e1 : IntKind.u8.min = 0 := by decide
    have e2 : IntKind.u8.max = 255 := by decide
    simpa [Lit.wf, e1, e2] using hn
  have fin : ∀ e w', e = Ending.returned (.bool true) ∧ Below W.heap.size W w' → ∃ v, e = .returned v ∧ Rows.fbDelaysSpec.post enc Tryd.prog Tryd.f3 false true false false W #[v0, v1, .int .u8 n] v w' := by
    rintro e w' ⟨rfl, hb⟩
    exact ⟨_, rfl, law_post laidOut hW' rfl (by rw [Tryd.params3]; intro t ht; simp only [List.mem_cons, List.not_mem_nil, or_false] at ht; rcases ht with rfl | rfl | rfl <;> exact ⟨by kernel_rfl, of_decide_eq_true (by kernel_rfl)⟩) (by rfl) (tb := 4) rfl Tryd.underlying4 hb⟩
  have e1 : IntKind.u8.min = 0 := by decide
  have e2 : IntKind.u8.max = 255 := by decide
  rcases open_bools Tryd.underlying22 Tryd.underlying4 (by kernel_rfl) (hval 0 22 v0 rfl rfl) h0 with rfl | ⟨b, off, len, cap, zs, rfl, k1, k2, k3, k4⟩ <;>
    rcases open_nums Tryd.underlying23 Tryd.underlying5 (by kernel_rfl) (hval 1 23 v1 rfl rfl) h1 with rfl | ⟨b', off', len', cap', ys, rfl, m1, m2, m3, m4, m5, m6⟩
  · exact (fbDelays_nn hlaid hsz n hn').mono fun e w' h => fin e w' h
  · exact (fbDelays_nr hlaid hsz n hn' m1 m3 m5 (by rw [e1, e2] at m6; exact m6)).mono fun e w' h => fin e w' h
  · exact (fbDelays_rn hlaid hsz n hn' k1 k4).mono fun e w' h => fin e w' h
  · exact (fbDelays_rr hlaid hsz n hn' k1 k4 m1 m3 m5 (by rw [e1, e2] at m6; exact m6)).mono fun e w' h => fin e w' h
theorem fbDelays_holds : Rows.FbDelaysSaid :=
  OpenClaim.holds_of_wide 3 Tryd.f3 rfl rfl rfl rfl rfl rfl rfl ⟨rfl, rfl, rfl, rfl, rfl⟩ rfl rfl rfl rfl rfl (by kernel_rfl) Tryd.func3 (by kernel_rfl)
    (of_decide_eq_true (by kernel_rfl)) (by unfold Func.isWrapper; first | (rw [if_pos (by decide +kernel)]; kernel_rfl) | (rw [if_neg (by decide +kernel)]; exact ⟨rfl, rfl⟩))
    (fun os started H enc _ => fbDelays_lifted os started H enc)
theorem fbDelays_card : Rows.FbDelaysCardSaid :=
  Claim7.holds_tied_plain_at .later [] [.listed, .data] true (true, "09fda92184a8400bbd2e43ac71c688daac006d731d374876dc34d34786d9df8f") true
    fbDelays_holds (fun _ h => by cases h) (by kernel_rfl) (fun _ h => by cases h) fbDelays_row_tie rfl ⟨rfl, rfl⟩ (by kernel_rfl) rfl
    (fun f fn hf hfn => by
      obtain rfl : f = 3 := Option.some.inj ((show Tryd.prog.funcNamed "rung/runglaw17.FbDelays" = some 3 by kernel_rfl).symm.trans hf) |>.symm
      obtain rfl : fn = Tryd.f3 := (Option.some.inj (Tryd.func3.symm.trans hfn)).symm
      exact ⟨by kernel_rfl, fun j t ht => by
        rw [Tryd.params3] at ht
        have hm : t ∈ [22, 23, 5] := by simpa using Array.mem_of_getElem? ht
        have hall : ([22, 23, 5].all fun u => !Tryd.prog.wantsStandIn u) = true := by kernel_rfl
        exact (show Tryd.prog.wantsStandIn t = false by simpa using List.all_eq_true.1 hall t hm)⟩)
    (by kernel_rfl)
end Go.Proofs.YtkphkjffcpkhjaaDoor
end
#print axioms Go.Proofs.YtkphkjffcpkhjaaDoor.fbDelays_card
