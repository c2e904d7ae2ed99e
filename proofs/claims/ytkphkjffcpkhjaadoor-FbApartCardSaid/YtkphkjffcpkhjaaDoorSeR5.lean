/- FbApart: called with any numbers, any two lists of numbers and any kept ones, the law tells true, and each argument reads behind the call as it read before. Conditions: those of the given row: the two listed variables read as the program lays them (the card ties that to its text). -/
import Derived.Test.YtkphkjffcpkhjaaDoorSeR1
import Derived.Test.YtkphkjffcpkhjaaDoorSeL5
import Derived.SevenTiedAt
/-! FbApart: the row, the card. -/
noncomputable section
set_option linter.unusedSimpArgs false
set_option linter.unusedVariables false
namespace Go.Proofs.YtkphkjffcpkhjaaDoor
open Go Go.SE
open Go.ChangeShapes Go.WideShapes Go.ChangeAt Go.RowKit
set_option maxRecDepth 1000000
theorem trodAll_five' {H : Type} {enc : TypeId × Value → H} {P : Program} {w : World} {base : Nat} {spare : Nat → Bool} {held : Bool} {t t' t'' t3 t4 : TypeId} {args : Array Value} {ds : List (DataW H)} {ps : List MemPlace} (h : DataW.TrodAll enc P w base spare held [t, t', t'', t3, t4] args.toList ds ps) :
    ∃ v v' v'' v3 v4 d d' d'' d3 d4 p p' p'' p3 p4, args = #[v, v', v'', v3, v4] ∧ ds = [d, d', d'', d3, d4] ∧ ps = p ++ p' ++ p'' ++ p3 ++ p4 ∧ DataW.Trod enc P w base spare held t v d p ∧ DataW.Trod enc P w base spare held t' v' d' p' ∧ DataW.Trod enc P w base spare held t'' v'' d'' p'' ∧ DataW.Trod enc P w base spare held t3 v3 d3 p3 ∧ DataW.Trod enc P w base spare held t4 v4 d4 p4 := by
  obtain ⟨v, vs, d, ds', p, q, hargs, rfl, rfl, hd, hrest⟩ := trodAll_cons h
  obtain ⟨v', vs', d', ds'', p', q', rfl, rfl, rfl, hd', hrest'⟩ := trodAll_cons hrest
  obtain ⟨v'', vs'', d'', ds''', p'', q'', rfl, rfl, rfl, hd'', hrest''⟩ := trodAll_cons hrest'
  obtain ⟨v3, vs3, d3, ds3, p3, q3, rfl, rfl, rfl, hd3, hrest3⟩ := trodAll_cons hrest''
  obtain ⟨v4, vs4, d4, ds4, p4, q4, rfl, rfl, rfl, hd4, hrest4⟩ := trodAll_cons hrest3
  obtain ⟨rfl, rfl, rfl⟩ := trodAll_nil hrest4
  exact ⟨v, v', v'', v3, v4, d, d', d'', d3, d4, p, p', p'', p3, p4, by cases args; simp_all, rfl, by simp, hd, hd', hd'', hd3, hd4⟩
/-- three kept numbers that came in. -/
theorem open_keep {W : World} {base : Nat} {v : Value} (h : Value.okWide Tryd.prog W .any base 34 v) : ∃ a b c, v = .agg #[.int .i64 a, .int .i64 b, .int .i64 c] := by
  have hu := Tryd.underlying34
  simp only [Value.okWide, hu] at h
  obtain ⟨cs, rfl, hs, ts, hts, _, hc⟩ := h
  have h3 : Tryd.prog.cellsOf 34 = 3 := by kernel_rfl
  have hts' : Tryd.prog.cellTypes Tryd.prog.depth 34 = some [2, 2, 2] := by kernel_rfl
  obtain rfl := Option.some.inj (hts'.symm.trans hts)
  rw [h3] at hs
  have one : ∀ i, i < 3 → ∃ n, cs[i]? = some (.int .i64 n) := by
    intro i hi
    have hx : cs[i]? = some cs[i] := Array.getElem?_eq_getElem (by omega)
    obtain ⟨u, hu2, ho⟩ := hc i _ hx
    have : u = 2 := by
      have : i = 0 ∨ i = 1 ∨ i = 2 := by omega
      rcases this with rfl | rfl | rfl <;> simpa using hu2.symm
    subst this
    obtain ⟨n, hn⟩ := okWide_int (P := Tryd.prog) (w := W) (r := .any) (base := base) Tryd.underlying2 (v := cs[i]) (by simpa only [Value.okWide, Tryd.underlying2] using ho)
    exact ⟨n, by rw [hx, hn]⟩
  obtain ⟨a, ha⟩ := one 0 (by omega)
  obtain ⟨b, hb⟩ := one 1 (by omega)
  obtain ⟨c, hc⟩ := one 2 (by omega)
  refine ⟨a, b, c, congrArg Value.agg (Array.ext_getElem? fun i => ?_)⟩
  match i with
  | 0 => rw [ha]; rfl
  | 1 => rw [hb]; rfl
  | 2 => rw [hc]; rfl
  | i + 3 => rw [Array.getElem?_eq_none (by omega)]; simp
/-- what is handed in: nothing, no number, numbers. -/
def GivenOk (W : World) (n : Nat) (v : Value) (z : List Int) (b off cap : Nat) : Prop :=
  match n with
  | 0 => v = .slice none 0 0
  | 1 => v = .slice (some ⟨b, off, none⟩) 0 cap ∧ b < W.heap.size
  | _ => v = .slice (some ⟨b, off, none⟩) z.length cap ∧ b < W.heap.size ∧ 0 < z.length ∧ ∀ i, i < z.length → W.cell? ⟨b, off + i, none⟩ = some (.int .i64 (z.getD i 0))
theorem view_nil {W : World} {B : Nat} {ρ : Env} {σ : Pl} {q : Nat} (hb : (σ q).1 < B) : BlkOk B ρ σ W q (viewR .nil) :=
  ⟨hb, fun r j k hr => absurd hr (by simp [X.den])⟩
theorem view_row {W : World} {B : Nat} {ρ : Env} {σ : Pl} {q v b off : Nat} {z : List Int} (hv : ρ.v v = .l (z.map U.i)) (hs : σ q = (b, off)) (hb : b < B)
    (hc : ∀ i, i < z.length → W.cell? ⟨b, off + i, none⟩ = some (.int .i64 (z.getD i 0))) : BlkOk B ρ σ W q (viewR (.v v)) := by
  refine ⟨by rw [hs]; exact hb, fun r j k hr hj => ?_⟩
  have hj0 : j = 0 := by have := (List.getElem?_eq_some_iff.1 hj).1; simpa [ci] using this
  subst hj0
  have hk : k = .int .i64 := by simpa [ci] using hj.symm
  subst hk
  have hr2 : r < z.length := by simpa [X.den, hv] using hr
  have := hc r hr2
  simp only [adr, hs, ci, List.length_cons, List.length_nil, Nat.zero_add, Nat.mul_one, Nat.add_zero, X.den, hv, asL_l] at this ⊢
  rw [this]
  simp [rowU, CK.val, List.getD_eq_getElem?_getD, hr2]
/-- the law's own walk, at what came in. -/
def apE (which k0 k1 k2 now : Int) (zi zo : List Int) (ci co : Nat) : Env :=
  ⟨fun j => match j with | 0 => .i which | 1 => .i k0 | 2 => .i k1 | 3 => .i k2 | 4 => .i now | 5 => .l (zi.map U.i) | 6 => .i ci | 7 => .l (zo.map U.i) | 8 => .i co | _ => default, fbF, IA.p⟩
theorem apart_00 {W : World} (hl : ∀ i, i < 256 → W.cell? ⟨1, i, none⟩ = some (.int .u8 (asciiAt i))) (h1 : 1 < W.heap.size) (which k0 k1 k2 now : Int) {zi zo : List Int} {bi oi ci bo oo co : Nat} {vi vo : Value}
    (gi : GivenOk W 0 vi zi bi oi ci) (go : GivenOk W 0 vo zo bo oo co) :
    Calls Tryd.prog 5 #[.int .i64 which, vi, .agg #[.int .i64 k0, .int .i64 k1, .int .i64 k2], vo, .int .i64 now] W fun e w' => e = .returned (.bool true) ∧ Below W.heap.size W w' := by
  have ei : vi = .slice none 0 0 := gi
  have eo : vo = .slice none 0 0 := go
  subst ei eo
  let σ : Pl := fun q => if q = 0 then (bo, oo) else (bo, oo)
  refine (apart00_ok ⟨W, IA⟩ rfl W.heap.size (apE which k0 k1 k2 now zi zo ci co) σ W [_, _, _, _, _] (HRep.views (by rfl) ⟨⟨rfl, rfl⟩, lay_ok (fun _ => rfl) hl h1, Below.refl _ _, Nat.le_refl _, ?_, ?_, ?_⟩) fun ρ' σ' he => ?_).mono fun e w' h => told_true rfl h
  ·
    intro q k hk; cases hk
  ·
    intro q c k l hk; cases hk
  ·
    intro f hf
    simp only [apartK, givenF, List.cons_append, List.nil_append, List.mem_cons, List.not_mem_nil, or_false] at hf
    subst hf; rfl
  ·
    have e0 : ρ'.v 0 = (apE which k0 k1 k2 now zi zo ci co).v 0 := he.v 0 (Or.inl (by show 0 < 9; decide))
    have e1 : ρ'.v 1 = (apE which k0 k1 k2 now zi zo ci co).v 1 := he.v 1 (Or.inl (by show 1 < 9; decide))
    have e2 : ρ'.v 2 = (apE which k0 k1 k2 now zi zo ci co).v 2 := he.v 2 (Or.inl (by show 2 < 9; decide))
    have e3 : ρ'.v 3 = (apE which k0 k1 k2 now zi zo ci co).v 3 := he.v 3 (Or.inl (by show 3 < 9; decide))
    have e4 : ρ'.v 4 = (apE which k0 k1 k2 now zi zo ci co).v 4 := he.v 4 (Or.inl (by show 4 < 9; decide))
    have e5 : ρ'.v 5 = (apE which k0 k1 k2 now zi zo ci co).v 5 := he.v 5 (Or.inl (by show 5 < 9; decide))
    have e6 : ρ'.v 6 = (apE which k0 k1 k2 now zi zo ci co).v 6 := he.v 6 (Or.inl (by show 6 < 9; decide))
    have e7 : ρ'.v 7 = (apE which k0 k1 k2 now zi zo ci co).v 7 := he.v 7 (Or.inl (by show 7 < 9; decide))
    have e8 : ρ'.v 8 = (apE which k0 k1 k2 now zi zo ci co).v 8 := he.v 8 (Or.inl (by show 8 < 9; decide))
    simp only [apartK, givenS, List.map_cons, List.map_nil, i64, SV.val, SV.val.vals, X.nat, X.den, lenV, den_len, adr, e0, e1, e2, e3, e4, e5, e6, e7, e8, apE, asI_i, asL_l, List.length_map, Int.toNat_natCast, Int.toNat_zero, Nat.zero_mul, Nat.add_zero]
theorem apart_01 {W : World} (hl : ∀ i, i < 256 → W.cell? ⟨1, i, none⟩ = some (.int .u8 (asciiAt i))) (h1 : 1 < W.heap.size) (which k0 k1 k2 now : Int) {zi zo : List Int} {bi oi ci bo oo co : Nat} {vi vo : Value}
    (gi : GivenOk W 0 vi zi bi oi ci) (go : GivenOk W 1 vo zo bo oo co) :
    Calls Tryd.prog 5 #[.int .i64 which, vi, .agg #[.int .i64 k0, .int .i64 k1, .int .i64 k2], vo, .int .i64 now] W fun e w' => e = .returned (.bool true) ∧ Below W.heap.size W w' := by
  have ei : vi = .slice none 0 0 := gi
  obtain ⟨eo, hbo⟩ := go
  subst ei eo
  let σ : Pl := fun q => if q = 0 then (bo, oo) else (bo, oo)
  refine (apart01_ok ⟨W, IA⟩ rfl W.heap.size (apE which k0 k1 k2 now zi zo ci co) σ W [_, _, _, _, _] (HRep.views (by rfl) ⟨⟨rfl, rfl⟩, lay_ok (fun _ => rfl) hl h1, Below.refl _ _, Nat.le_refl _, ?_, ?_, ?_⟩) fun ρ' σ' he => ?_).mono fun e w' h => told_true rfl h
  ·
    intro q k hk
    have hm := fget_mem hk
    simp only [apartK, givenB, List.append_nil, List.nil_append, List.mem_cons, List.not_mem_nil, or_false, Prod.mk.injEq] at hm
    obtain ⟨rfl, rfl⟩ := hm
    exact view_nil hbo
  ·
    intro q c k l hk _ ok
    have hm := fget_mem hk
    simp only [apartK, givenB, List.append_nil, List.nil_append, List.mem_cons, List.not_mem_nil, or_false, Prod.mk.injEq] at hm
    obtain ⟨rfl, rfl⟩ := hm
    cases ok
  ·
    intro f hf
    simp only [apartK, givenF, List.cons_append, List.nil_append, List.mem_cons, List.not_mem_nil, or_false] at hf
    subst hf; rfl
  ·
    have e0 : ρ'.v 0 = (apE which k0 k1 k2 now zi zo ci co).v 0 := he.v 0 (Or.inl (by show 0 < 9; decide))
    have e1 : ρ'.v 1 = (apE which k0 k1 k2 now zi zo ci co).v 1 := he.v 1 (Or.inl (by show 1 < 9; decide))
    have e2 : ρ'.v 2 = (apE which k0 k1 k2 now zi zo ci co).v 2 := he.v 2 (Or.inl (by show 2 < 9; decide))
    have e3 : ρ'.v 3 = (apE which k0 k1 k2 now zi zo ci co).v 3 := he.v 3 (Or.inl (by show 3 < 9; decide))
    have e4 : ρ'.v 4 = (apE which k0 k1 k2 now zi zo ci co).v 4 := he.v 4 (Or.inl (by show 4 < 9; decide))
    have e5 : ρ'.v 5 = (apE which k0 k1 k2 now zi zo ci co).v 5 := he.v 5 (Or.inl (by show 5 < 9; decide))
    have e6 : ρ'.v 6 = (apE which k0 k1 k2 now zi zo ci co).v 6 := he.v 6 (Or.inl (by show 6 < 9; decide))
    have e7 : ρ'.v 7 = (apE which k0 k1 k2 now zi zo ci co).v 7 := he.v 7 (Or.inl (by show 7 < 9; decide))
    have e8 : ρ'.v 8 = (apE which k0 k1 k2 now zi zo ci co).v 8 := he.v 8 (Or.inl (by show 8 < 9; decide))
    have b0 : σ' 0 = (bo, oo) := he.b 0 (Or.inl (by show 0 < 1; decide))
    simp only [apartK, givenS, List.map_cons, List.map_nil, i64, SV.val, SV.val.vals, X.nat, X.den, lenV, den_len, adr, e0, e1, e2, e3, e4, e5, e6, e7, e8, b0, apE, asI_i, asL_l, List.length_map, Int.toNat_natCast, Int.toNat_zero, Nat.zero_mul, Nat.add_zero]
theorem apart_02 {W : World} (hl : ∀ i, i < 256 → W.cell? ⟨1, i, none⟩ = some (.int .u8 (asciiAt i))) (h1 : 1 < W.heap.size) (which k0 k1 k2 now : Int) {zi zo : List Int} {bi oi ci bo oo co : Nat} {vi vo : Value}
    (gi : GivenOk W 0 vi zi bi oi ci) (go : GivenOk W 2 vo zo bo oo co) :
    Calls Tryd.prog 5 #[.int .i64 which, vi, .agg #[.int .i64 k0, .int .i64 k1, .int .i64 k2], vo, .int .i64 now] W fun e w' => e = .returned (.bool true) ∧ Below W.heap.size W w' := by
  have ei : vi = .slice none 0 0 := gi
  obtain ⟨eo, hbo, h0o, hco⟩ := go
  subst ei eo
  let σ : Pl := fun q => if q = 0 then (bo, oo) else (bo, oo)
  refine (apart02_ok ⟨W, IA⟩ rfl W.heap.size (apE which k0 k1 k2 now zi zo ci co) σ W [_, _, _, _, _] (HRep.views (by rfl) ⟨⟨rfl, rfl⟩, lay_ok (fun _ => rfl) hl h1, Below.refl _ _, Nat.le_refl _, ?_, ?_, ?_⟩) fun ρ' σ' he => ?_).mono fun e w' h => told_true rfl h
  ·
    intro q k hk
    have hm := fget_mem hk
    simp only [apartK, givenB, List.append_nil, List.nil_append, List.mem_cons, List.not_mem_nil, or_false, Prod.mk.injEq] at hm
    obtain ⟨rfl, rfl⟩ := hm
    exact view_row (v := 7) rfl rfl hbo hco
  ·
    intro q c k l hk _ ok
    have hm := fget_mem hk
    simp only [apartK, givenB, List.append_nil, List.nil_append, List.mem_cons, List.not_mem_nil, or_false, Prod.mk.injEq] at hm
    obtain ⟨rfl, rfl⟩ := hm
    cases ok
  ·
    intro f hf
    simp only [apartK, givenF, List.cons_append, List.nil_append, List.mem_cons, List.not_mem_nil, or_false] at hf
    rcases hf with rfl | rfl
    · simp only [Fact.ok, X.den, O2.den, lenV, den_len, asB_b, asI_i, ilt_iff, apE, asL_l, List.length_map]; omega
    · rfl
  ·
    have e0 : ρ'.v 0 = (apE which k0 k1 k2 now zi zo ci co).v 0 := he.v 0 (Or.inl (by show 0 < 9; decide))
    have e1 : ρ'.v 1 = (apE which k0 k1 k2 now zi zo ci co).v 1 := he.v 1 (Or.inl (by show 1 < 9; decide))
    have e2 : ρ'.v 2 = (apE which k0 k1 k2 now zi zo ci co).v 2 := he.v 2 (Or.inl (by show 2 < 9; decide))
    have e3 : ρ'.v 3 = (apE which k0 k1 k2 now zi zo ci co).v 3 := he.v 3 (Or.inl (by show 3 < 9; decide))
    have e4 : ρ'.v 4 = (apE which k0 k1 k2 now zi zo ci co).v 4 := he.v 4 (Or.inl (by show 4 < 9; decide))
    have e5 : ρ'.v 5 = (apE which k0 k1 k2 now zi zo ci co).v 5 := he.v 5 (Or.inl (by show 5 < 9; decide))
    have e6 : ρ'.v 6 = (apE which k0 k1 k2 now zi zo ci co).v 6 := he.v 6 (Or.inl (by show 6 < 9; decide))
    have e7 : ρ'.v 7 = (apE which k0 k1 k2 now zi zo ci co).v 7 := he.v 7 (Or.inl (by show 7 < 9; decide))
    have e8 : ρ'.v 8 = (apE which k0 k1 k2 now zi zo ci co).v 8 := he.v 8 (Or.inl (by show 8 < 9; decide))
    have b0 : σ' 0 = (bo, oo) := he.b 0 (Or.inl (by show 0 < 1; decide))
    simp only [apartK, givenS, List.map_cons, List.map_nil, i64, SV.val, SV.val.vals, X.nat, X.den, lenV, den_len, adr, e0, e1, e2, e3, e4, e5, e6, e7, e8, b0, apE, asI_i, asL_l, List.length_map, Int.toNat_natCast, Int.toNat_zero, Nat.zero_mul, Nat.add_zero]
theorem apart_10 {W : World} (hl : ∀ i, i < 256 → W.cell? ⟨1, i, none⟩ = some (.int .u8 (asciiAt i))) (h1 : 1 < W.heap.size) (which k0 k1 k2 now : Int) {zi zo : List Int} {bi oi ci bo oo co : Nat} {vi vo : Value}
    (gi : GivenOk W 1 vi zi bi oi ci) (go : GivenOk W 0 vo zo bo oo co) :
    Calls Tryd.prog 5 #[.int .i64 which, vi, .agg #[.int .i64 k0, .int .i64 k1, .int .i64 k2], vo, .int .i64 now] W fun e w' => e = .returned (.bool true) ∧ Below W.heap.size W w' := by
  obtain ⟨ei, hbi⟩ := gi
  have eo : vo = .slice none 0 0 := go
  subst ei eo
  let σ : Pl := fun q => if q = 0 then (bi, oi) else (bo, oo)
  refine (apart10_ok ⟨W, IA⟩ rfl W.heap.size (apE which k0 k1 k2 now zi zo ci co) σ W [_, _, _, _, _] (HRep.views (by rfl) ⟨⟨rfl, rfl⟩, lay_ok (fun _ => rfl) hl h1, Below.refl _ _, Nat.le_refl _, ?_, ?_, ?_⟩) fun ρ' σ' he => ?_).mono fun e w' h => told_true rfl h
  ·
    intro q k hk
    have hm := fget_mem hk
    simp only [apartK, givenB, List.append_nil, List.nil_append, List.mem_cons, List.not_mem_nil, or_false, Prod.mk.injEq] at hm
    obtain ⟨rfl, rfl⟩ := hm
    exact view_nil hbi
  ·
    intro q c k l hk _ ok
    have hm := fget_mem hk
    simp only [apartK, givenB, List.append_nil, List.nil_append, List.mem_cons, List.not_mem_nil, or_false, Prod.mk.injEq] at hm
    obtain ⟨rfl, rfl⟩ := hm
    cases ok
  ·
    intro f hf
    simp only [apartK, givenF, List.cons_append, List.nil_append, List.mem_cons, List.not_mem_nil, or_false] at hf
    subst hf; rfl
  ·
    have e0 : ρ'.v 0 = (apE which k0 k1 k2 now zi zo ci co).v 0 := he.v 0 (Or.inl (by show 0 < 9; decide))
    have e1 : ρ'.v 1 = (apE which k0 k1 k2 now zi zo ci co).v 1 := he.v 1 (Or.inl (by show 1 < 9; decide))
    have e2 : ρ'.v 2 = (apE which k0 k1 k2 now zi zo ci co).v 2 := he.v 2 (Or.inl (by show 2 < 9; decide))
    have e3 : ρ'.v 3 = (apE which k0 k1 k2 now zi zo ci co).v 3 := he.v 3 (Or.inl (by show 3 < 9; decide))
    have e4 : ρ'.v 4 = (apE which k0 k1 k2 now zi zo ci co).v 4 := he.v 4 (Or.inl (by show 4 < 9; decide))
    have e5 : ρ'.v 5 = (apE which k0 k1 k2 now zi zo ci co).v 5 := he.v 5 (Or.inl (by show 5 < 9; decide))
    have e6 : ρ'.v 6 = (apE which k0 k1 k2 now zi zo ci co).v 6 := he.v 6 (Or.inl (by show 6 < 9; decide))
    have e7 : ρ'.v 7 = (apE which k0 k1 k2 now zi zo ci co).v 7 := he.v 7 (Or.inl (by show 7 < 9; decide))
    have e8 : ρ'.v 8 = (apE which k0 k1 k2 now zi zo ci co).v 8 := he.v 8 (Or.inl (by show 8 < 9; decide))
    have b0 : σ' 0 = (bi, oi) := he.b 0 (Or.inl (by show 0 < 1; decide))
    simp only [apartK, givenS, List.map_cons, List.map_nil, i64, SV.val, SV.val.vals, X.nat, X.den, lenV, den_len, adr, e0, e1, e2, e3, e4, e5, e6, e7, e8, b0, apE, asI_i, asL_l, List.length_map, Int.toNat_natCast, Int.toNat_zero, Nat.zero_mul, Nat.add_zero]
theorem apart_11 {W : World} (hl : ∀ i, i < 256 → W.cell? ⟨1, i, none⟩ = some (.int .u8 (asciiAt i))) (h1 : 1 < W.heap.size) (which k0 k1 k2 now : Int) {zi zo : List Int} {bi oi ci bo oo co : Nat} {vi vo : Value}
    (gi : GivenOk W 1 vi zi bi oi ci) (go : GivenOk W 1 vo zo bo oo co) :
    Calls Tryd.prog 5 #[.int .i64 which, vi, .agg #[.int .i64 k0, .int .i64 k1, .int .i64 k2], vo, .int .i64 now] W fun e w' => e = .returned (.bool true) ∧ Below W.heap.size W w' := by
  obtain ⟨ei, hbi⟩ := gi
  obtain ⟨eo, hbo⟩ := go
  subst ei eo
  let σ : Pl := fun q => if q = 0 then (bi, oi) else (bo, oo)
  refine (apart11_ok ⟨W, IA⟩ rfl W.heap.size (apE which k0 k1 k2 now zi zo ci co) σ W [_, _, _, _, _] (HRep.views (by rfl) ⟨⟨rfl, rfl⟩, lay_ok (fun _ => rfl) hl h1, Below.refl _ _, Nat.le_refl _, ?_, ?_, ?_⟩) fun ρ' σ' he => ?_).mono fun e w' h => told_true rfl h
  ·
    intro q k hk
    have hm := fget_mem hk
    simp only [apartK, givenB, List.cons_append, List.nil_append, List.mem_cons, List.not_mem_nil, or_false, Prod.mk.injEq] at hm
    rcases hm with ⟨rfl, rfl⟩ | ⟨rfl, rfl⟩
    · exact view_nil hbo
    · exact view_nil hbi
  ·
    intro q c k l hk _ ok
    have hm := fget_mem hk
    simp only [apartK, givenB, List.cons_append, List.nil_append, List.mem_cons, List.not_mem_nil, or_false, Prod.mk.injEq] at hm
    rcases hm with ⟨rfl, rfl⟩ | ⟨rfl, rfl⟩ <;> cases ok
  ·
    intro f hf
    simp only [apartK, givenF, List.cons_append, List.nil_append, List.mem_cons, List.not_mem_nil, or_false] at hf
    subst hf; rfl
  ·
    have e0 : ρ'.v 0 = (apE which k0 k1 k2 now zi zo ci co).v 0 := he.v 0 (Or.inl (by show 0 < 9; decide))
    have e1 : ρ'.v 1 = (apE which k0 k1 k2 now zi zo ci co).v 1 := he.v 1 (Or.inl (by show 1 < 9; decide))
    have e2 : ρ'.v 2 = (apE which k0 k1 k2 now zi zo ci co).v 2 := he.v 2 (Or.inl (by show 2 < 9; decide))
    have e3 : ρ'.v 3 = (apE which k0 k1 k2 now zi zo ci co).v 3 := he.v 3 (Or.inl (by show 3 < 9; decide))
    have e4 : ρ'.v 4 = (apE which k0 k1 k2 now zi zo ci co).v 4 := he.v 4 (Or.inl (by show 4 < 9; decide))
    have e5 : ρ'.v 5 = (apE which k0 k1 k2 now zi zo ci co).v 5 := he.v 5 (Or.inl (by show 5 < 9; decide))
    have e6 : ρ'.v 6 = (apE which k0 k1 k2 now zi zo ci co).v 6 := he.v 6 (Or.inl (by show 6 < 9; decide))
    have e7 : ρ'.v 7 = (apE which k0 k1 k2 now zi zo ci co).v 7 := he.v 7 (Or.inl (by show 7 < 9; decide))
    have e8 : ρ'.v 8 = (apE which k0 k1 k2 now zi zo ci co).v 8 := he.v 8 (Or.inl (by show 8 < 9; decide))
    have b0 : σ' 0 = (bi, oi) := he.b 0 (Or.inl (by show 0 < 2; decide))
    have b1 : σ' 1 = (bo, oo) := he.b 1 (Or.inl (by show 1 < 2; decide))
    simp only [apartK, givenS, List.map_cons, List.map_nil, i64, SV.val, SV.val.vals, X.nat, X.den, lenV, den_len, adr, e0, e1, e2, e3, e4, e5, e6, e7, e8, b0, b1, apE, asI_i, asL_l, List.length_map, Int.toNat_natCast, Int.toNat_zero, Nat.zero_mul, Nat.add_zero]
theorem apart_12 {W : World} (hl : ∀ i, i < 256 → W.cell? ⟨1, i, none⟩ = some (.int .u8 (asciiAt i))) (h1 : 1 < W.heap.size) (which k0 k1 k2 now : Int) {zi zo : List Int} {bi oi ci bo oo co : Nat} {vi vo : Value}
    (gi : GivenOk W 1 vi zi bi oi ci) (go : GivenOk W 2 vo zo bo oo co) :
    Calls Tryd.prog 5 #[.int .i64 which, vi, .agg #[.int .i64 k0, .int .i64 k1, .int .i64 k2], vo, .int .i64 now] W fun e w' => e = .returned (.bool true) ∧ Below W.heap.size W w' := by
  obtain ⟨ei, hbi⟩ := gi
  obtain ⟨eo, hbo, h0o, hco⟩ := go
  subst ei eo
  let σ : Pl := fun q => if q = 0 then (bi, oi) else (bo, oo)
  refine (apart12_ok ⟨W, IA⟩ rfl W.heap.size (apE which k0 k1 k2 now zi zo ci co) σ W [_, _, _, _, _] (HRep.views (by rfl) ⟨⟨rfl, rfl⟩, lay_ok (fun _ => rfl) hl h1, Below.refl _ _, Nat.le_refl _, ?_, ?_, ?_⟩) fun ρ' σ' he => ?_).mono fun e w' h => told_true rfl h
  ·
    intro q k hk
    have hm := fget_mem hk
    simp only [apartK, givenB, List.cons_append, List.nil_append, List.mem_cons, List.not_mem_nil, or_false, Prod.mk.injEq] at hm
    rcases hm with ⟨rfl, rfl⟩ | ⟨rfl, rfl⟩
    · exact view_row (v := 7) rfl rfl hbo hco
    · exact view_nil hbi
  ·
    intro q c k l hk _ ok
    have hm := fget_mem hk
    simp only [apartK, givenB, List.cons_append, List.nil_append, List.mem_cons, List.not_mem_nil, or_false, Prod.mk.injEq] at hm
    rcases hm with ⟨rfl, rfl⟩ | ⟨rfl, rfl⟩ <;> cases ok
  ·
    intro f hf
    simp only [apartK, givenF, List.cons_append, List.nil_append, List.mem_cons, List.not_mem_nil, or_false] at hf
    rcases hf with rfl | rfl
    · simp only [Fact.ok, X.den, O2.den, lenV, den_len, asB_b, asI_i, ilt_iff, apE, asL_l, List.length_map]; omega
    · rfl
  ·
    have e0 : ρ'.v 0 = (apE which k0 k1 k2 now zi zo ci co).v 0 := he.v 0 (Or.inl (by show 0 < 9; decide))
    have e1 : ρ'.v 1 = (apE which k0 k1 k2 now zi zo ci co).v 1 := he.v 1 (Or.inl (by show 1 < 9; decide))
    have e2 : ρ'.v 2 = (apE which k0 k1 k2 now zi zo ci co).v 2 := he.v 2 (Or.inl (by show 2 < 9; decide))
    have e3 : ρ'.v 3 = (apE which k0 k1 k2 now zi zo ci co).v 3 := he.v 3 (Or.inl (by show 3 < 9; decide))
    have e4 : ρ'.v 4 = (apE which k0 k1 k2 now zi zo ci co).v 4 := he.v 4 (Or.inl (by show 4 < 9; decide))
    have e5 : ρ'.v 5 = (apE which k0 k1 k2 now zi zo ci co).v 5 := he.v 5 (Or.inl (by show 5 < 9; decide))
    have e6 : ρ'.v 6 = (apE which k0 k1 k2 now zi zo ci co).v 6 := he.v 6 (Or.inl (by show 6 < 9; decide))
    have e7 : ρ'.v 7 = (apE which k0 k1 k2 now zi zo ci co).v 7 := he.v 7 (Or.inl (by show 7 < 9; decide))
    have e8 : ρ'.v 8 = (apE which k0 k1 k2 now zi zo ci co).v 8 := he.v 8 (Or.inl (by show 8 < 9; decide))
    have b0 : σ' 0 = (bi, oi) := he.b 0 (Or.inl (by show 0 < 2; decide))
    have b1 : σ' 1 = (bo, oo) := he.b 1 (Or.inl (by show 1 < 2; decide))
    simp only [apartK, givenS, List.map_cons, List.map_nil, i64, SV.val, SV.val.vals, X.nat, X.den, lenV, den_len, adr, e0, e1, e2, e3, e4, e5, e6, e7, e8, b0, b1, apE, asI_i, asL_l, List.length_map, Int.toNat_natCast, Int.toNat_zero, Nat.zero_mul, Nat.add_zero]
theorem apart_20 {W : World} (hl : ∀ i, i < 256 → W.cell? ⟨1, i, none⟩ = some (.int .u8 (asciiAt i))) (h1 : 1 < W.heap.size) (which k0 k1 k2 now : Int) {zi zo : List Int} {bi oi ci bo oo co : Nat} {vi vo : Value}
    (gi : GivenOk W 2 vi zi bi oi ci) (go : GivenOk W 0 vo zo bo oo co) :
    Calls Tryd.prog 5 #[.int .i64 which, vi, .agg #[.int .i64 k0, .int .i64 k1, .int .i64 k2], vo, .int .i64 now] W fun e w' => e = .returned (.bool true) ∧ Below W.heap.size W w' := by
  obtain ⟨ei, hbi, h0i, hci⟩ := gi
  have eo : vo = .slice none 0 0 := go
  subst ei eo
  let σ : Pl := fun q => if q = 0 then (bi, oi) else (bo, oo)
  refine (apart20_ok ⟨W, IA⟩ rfl W.heap.size (apE which k0 k1 k2 now zi zo ci co) σ W [_, _, _, _, _] (HRep.views (by rfl) ⟨⟨rfl, rfl⟩, lay_ok (fun _ => rfl) hl h1, Below.refl _ _, Nat.le_refl _, ?_, ?_, ?_⟩) fun ρ' σ' he => ?_).mono fun e w' h => told_true rfl h
  ·
    intro q k hk
    have hm := fget_mem hk
    simp only [apartK, givenB, List.append_nil, List.nil_append, List.mem_cons, List.not_mem_nil, or_false, Prod.mk.injEq] at hm
    obtain ⟨rfl, rfl⟩ := hm
    exact view_row (v := 5) rfl rfl hbi hci
  ·
    intro q c k l hk _ ok
    have hm := fget_mem hk
    simp only [apartK, givenB, List.append_nil, List.nil_append, List.mem_cons, List.not_mem_nil, or_false, Prod.mk.injEq] at hm
    obtain ⟨rfl, rfl⟩ := hm
    cases ok
  ·
    intro f hf
    simp only [apartK, givenF, List.cons_append, List.nil_append, List.mem_cons, List.not_mem_nil, or_false] at hf
    rcases hf with rfl | rfl
    · simp only [Fact.ok, X.den, O2.den, lenV, den_len, asB_b, asI_i, ilt_iff, apE, asL_l, List.length_map]; omega
    · rfl
  ·
    have e0 : ρ'.v 0 = (apE which k0 k1 k2 now zi zo ci co).v 0 := he.v 0 (Or.inl (by show 0 < 9; decide))
    have e1 : ρ'.v 1 = (apE which k0 k1 k2 now zi zo ci co).v 1 := he.v 1 (Or.inl (by show 1 < 9; decide))
    have e2 : ρ'.v 2 = (apE which k0 k1 k2 now zi zo ci co).v 2 := he.v 2 (Or.inl (by show 2 < 9; decide))
    have e3 : ρ'.v 3 = (apE which k0 k1 k2 now zi zo ci co).v 3 := he.v 3 (Or.inl (by show 3 < 9; decide))
    have e4 : ρ'.v 4 = (apE which k0 k1 k2 now zi zo ci co).v 4 := he.v 4 (Or.inl (by show 4 < 9; decide))
    have e5 : ρ'.v 5 = (apE which k0 k1 k2 now zi zo ci co).v 5 := he.v 5 (Or.inl (by show 5 < 9; decide))
    have e6 : ρ'.v 6 = (apE which k0 k1 k2 now zi zo ci co).v 6 := he.v 6 (Or.inl (by show 6 < 9; decide))
    have e7 : ρ'.v 7 = (apE which k0 k1 k2 now zi zo ci co).v 7 := he.v 7 (Or.inl (by show 7 < 9; decide))
    have e8 : ρ'.v 8 = (apE which k0 k1 k2 now zi zo ci co).v 8 := he.v 8 (Or.inl (by show 8 < 9; decide))
    have b0 : σ' 0 = (bi, oi) := he.b 0 (Or.inl (by show 0 < 1; decide))
    simp only [apartK, givenS, List.map_cons, List.map_nil, i64, SV.val, SV.val.vals, X.nat, X.den, lenV, den_len, adr, e0, e1, e2, e3, e4, e5, e6, e7, e8, b0, apE, asI_i, asL_l, List.length_map, Int.toNat_natCast, Int.toNat_zero, Nat.zero_mul, Nat.add_zero]
theorem apart_21 {W : World} (hl : ∀ i, i < 256 → W.cell? ⟨1, i, none⟩ = some (.int .u8 (asciiAt i))) (h1 : 1 < W.heap.size) (which k0 k1 k2 now : Int) {zi zo : List Int} {bi oi ci bo oo co : Nat} {vi vo : Value}
    (gi : GivenOk W 2 vi zi bi oi ci) (go : GivenOk W 1 vo zo bo oo co) :
    Calls Tryd.prog 5 #[.int .i64 which, vi, .agg #[.int .i64 k0, .int .i64 k1, .int .i64 k2], vo, .int .i64 now] W fun e w' => e = .returned (.bool true) ∧ Below W.heap.size W w' := by
  obtain ⟨ei, hbi, h0i, hci⟩ := gi
  obtain ⟨eo, hbo⟩ := go
  subst ei eo
  let σ : Pl := fun q => if q = 0 then (bi, oi) else (bo, oo)
  refine (apart21_ok ⟨W, IA⟩ rfl W.heap.size (apE which k0 k1 k2 now zi zo ci co) σ W [_, _, _, _, _] (HRep.views (by rfl) ⟨⟨rfl, rfl⟩, lay_ok (fun _ => rfl) hl h1, Below.refl _ _, Nat.le_refl _, ?_, ?_, ?_⟩) fun ρ' σ' he => ?_).mono fun e w' h => told_true rfl h
  ·
    intro q k hk
    have hm := fget_mem hk
    simp only [apartK, givenB, List.cons_append, List.nil_append, List.mem_cons, List.not_mem_nil, or_false, Prod.mk.injEq] at hm
    rcases hm with ⟨rfl, rfl⟩ | ⟨rfl, rfl⟩
    · exact view_nil hbo
    · exact view_row (v := 5) rfl rfl hbi hci
  ·
    intro q c k l hk _ ok
    have hm := fget_mem hk
    simp only [apartK, givenB, List.cons_append, List.nil_append, List.mem_cons, List.not_mem_nil, or_false, Prod.mk.injEq] at hm
    rcases hm with ⟨rfl, rfl⟩ | ⟨rfl, rfl⟩ <;> cases ok
  ·
    intro f hf
    simp only [apartK, givenF, List.cons_append, List.nil_append, List.mem_cons, List.not_mem_nil, or_false] at hf
    rcases hf with rfl | rfl
    · simp only [Fact.ok, X.den, O2.den, lenV, den_len, asB_b, asI_i, ilt_iff, apE, asL_l, List.length_map]; omega
    · rfl
  ·
    have e0 : ρ'.v 0 = (apE which k0 k1 k2 now zi zo ci co).v 0 := he.v 0 (Or.inl (by show 0 < 9; decide))
    have e1 : ρ'.v 1 = (apE which k0 k1 k2 now zi zo ci co).v 1 := he.v 1 (Or.inl (by show 1 < 9; decide))
    have e2 : ρ'.v 2 = (apE which k0 k1 k2 now zi zo ci co).v 2 := he.v 2 (Or.inl (by show 2 < 9; decide))
    have e3 : ρ'.v 3 = (apE which k0 k1 k2 now zi zo ci co).v 3 := he.v 3 (Or.inl (by show 3 < 9; decide))
    have e4 : ρ'.v 4 = (apE which k0 k1 k2 now zi zo ci co).v 4 := he.v 4 (Or.inl (by show 4 < 9; decide))
    have e5 : ρ'.v 5 = (apE which k0 k1 k2 now zi zo ci co).v 5 := he.v 5 (Or.inl (by show 5 < 9; decide))
    have e6 : ρ'.v 6 = (apE which k0 k1 k2 now zi zo ci co).v 6 := he.v 6 (Or.inl (by show 6 < 9; decide))
    have e7 : ρ'.v 7 = (apE which k0 k1 k2 now zi zo ci co).v 7 := he.v 7 (Or.inl (by show 7 < 9; decide))
    have e8 : ρ'.v 8 = (apE which k0 k1 k2 now zi zo ci co).v 8 := he.v 8 (Or.inl (by show 8 < 9; decide))
    have b0 : σ' 0 = (bi, oi) := he.b 0 (Or.inl (by show 0 < 2; decide))
    have b1 : σ' 1 = (bo, oo) := he.b 1 (Or.inl (by show 1 < 2; decide))
    simp only [apartK, givenS, List.map_cons, List.map_nil, i64, SV.val, SV.val.vals, X.nat, X.den, lenV, den_len, adr, e0, e1, e2, e3, e4, e5, e6, e7, e8, b0, b1, apE, asI_i, asL_l, List.length_map, Int.toNat_natCast, Int.toNat_zero, Nat.zero_mul, Nat.add_zero]
theorem apart_22 {W : World} (hl : ∀ i, i < 256 → W.cell? ⟨1, i, none⟩ = some (.int .u8 (asciiAt i))) (h1 : 1 < W.heap.size) (which k0 k1 k2 now : Int) {zi zo : List Int} {bi oi ci bo oo co : Nat} {vi vo : Value}
    (gi : GivenOk W 2 vi zi bi oi ci) (go : GivenOk W 2 vo zo bo oo co) :
    Calls Tryd.prog 5 #[.int .i64 which, vi, .agg #[.int .i64 k0, .int .i64 k1, .int .i64 k2], vo, .int .i64 now] W fun e w' => e = .returned (.bool true) ∧ Below W.heap.size W w' := by
  obtain ⟨ei, hbi, h0i, hci⟩ := gi
  obtain ⟨eo, hbo, h0o, hco⟩ := go
  subst ei eo
  let σ : Pl := fun q => if q = 0 then (bi, oi) else (bo, oo)
  refine (apart22_ok ⟨W, IA⟩ rfl W.heap.size (apE which k0 k1 k2 now zi zo ci co) σ W [_, _, _, _, _] (HRep.views (by rfl) ⟨⟨rfl, rfl⟩, lay_ok (fun _ => rfl) hl h1, Below.refl _ _, Nat.le_refl _, ?_, ?_, ?_⟩) fun ρ' σ' he => ?_).mono fun e w' h => told_true rfl h
  ·
    intro q k hk
    have hm := fget_mem hk
    simp only [apartK, givenB, List.cons_append, List.nil_append, List.mem_cons, List.not_mem_nil, or_false, Prod.mk.injEq] at hm
    rcases hm with ⟨rfl, rfl⟩ | ⟨rfl, rfl⟩
    · exact view_row (v := 7) rfl rfl hbo hco
    · exact view_row (v := 5) rfl rfl hbi hci
  ·
    intro q c k l hk _ ok
    have hm := fget_mem hk
    simp only [apartK, givenB, List.cons_append, List.nil_append, List.mem_cons, List.not_mem_nil, or_false, Prod.mk.injEq] at hm
    rcases hm with ⟨rfl, rfl⟩ | ⟨rfl, rfl⟩ <;> cases ok
  ·
    intro f hf
    simp only [apartK, givenF, List.cons_append, List.nil_append, List.mem_cons, List.not_mem_nil, or_false] at hf
    rcases hf with rfl | rfl | rfl
    · simp only [Fact.ok, X.den, O2.den, lenV, den_len, asB_b, asI_i, ilt_iff, apE, asL_l, List.length_map]; omega
    · simp only [Fact.ok, X.den, O2.den, lenV, den_len, asB_b, asI_i, ilt_iff, apE, asL_l, List.length_map]; omega
    · rfl
  ·
    have e0 : ρ'.v 0 = (apE which k0 k1 k2 now zi zo ci co).v 0 := he.v 0 (Or.inl (by show 0 < 9; decide))
    have e1 : ρ'.v 1 = (apE which k0 k1 k2 now zi zo ci co).v 1 := he.v 1 (Or.inl (by show 1 < 9; decide))
    have e2 : ρ'.v 2 = (apE which k0 k1 k2 now zi zo ci co).v 2 := he.v 2 (Or.inl (by show 2 < 9; decide))
    have e3 : ρ'.v 3 = (apE which k0 k1 k2 now zi zo ci co).v 3 := he.v 3 (Or.inl (by show 3 < 9; decide))
    have e4 : ρ'.v 4 = (apE which k0 k1 k2 now zi zo ci co).v 4 := he.v 4 (Or.inl (by show 4 < 9; decide))
    have e5 : ρ'.v 5 = (apE which k0 k1 k2 now zi zo ci co).v 5 := he.v 5 (Or.inl (by show 5 < 9; decide))
    have e6 : ρ'.v 6 = (apE which k0 k1 k2 now zi zo ci co).v 6 := he.v 6 (Or.inl (by show 6 < 9; decide))
    have e7 : ρ'.v 7 = (apE which k0 k1 k2 now zi zo ci co).v 7 := he.v 7 (Or.inl (by show 7 < 9; decide))
    have e8 : ρ'.v 8 = (apE which k0 k1 k2 now zi zo ci co).v 8 := he.v 8 (Or.inl (by show 8 < 9; decide))
    have b0 : σ' 0 = (bi, oi) := he.b 0 (Or.inl (by show 0 < 2; decide))
    have b1 : σ' 1 = (bo, oo) := he.b 1 (Or.inl (by show 1 < 2; decide))
    simp only [apartK, givenS, List.map_cons, List.map_nil, i64, SV.val, SV.val.vals, X.nat, X.den, lenV, den_len, adr, e0, e1, e2, e3, e4, e5, e6, e7, e8, b0, b1, apE, asI_i, asL_l, List.length_map, Int.toNat_natCast, Int.toNat_zero, Nat.zero_mul, Nat.add_zero]
theorem given_of {H : Type} {enc : TypeId × Value → H} {w : World} {b0 : Nat} {v : Value} {d : DataW H} {ps : List MemPlace} (hval : Value.okWide Tryd.prog w .any b0 26 v) (hd : DataW.Trod enc Tryd.prog w 0 (fun _ => true) true 26 v d ps) :
    ∃ n z b off cap, n < 3 ∧ GivenOk w n v z b off cap := by
  rcases open_nums Tryd.underlying26 Tryd.underlying2 (by kernel_rfl) hval hd with rfl | ⟨b, off, len, cap, zs, rfl, k1, k2, k3, k4, k5, k6⟩
  · exact ⟨0, [], 0, 0, 0, by omega, rfl⟩
  · subst k3
    cases zs with
    | nil => exact ⟨1, [], b, off, cap, by omega, rfl, k1⟩
    | cons z zs => exact ⟨2, z :: zs, b, off, cap, by omega, rfl, k1, by simp, k5⟩
theorem apart_at {W : World} (hl : ∀ i, i < 256 → W.cell? ⟨1, i, none⟩ = some (.int .u8 (asciiAt i))) (h1 : 1 < W.heap.size) (which k0 k1 k2 now : Int) {i o : Nat} (hi : i < 3) (ho : o < 3) {zi zo : List Int} {bi oi ci bo oo co : Nat} {vi vo : Value}
    (gi : GivenOk W i vi zi bi oi ci) (go : GivenOk W o vo zo bo oo co) :
    Calls Tryd.prog 5 #[.int .i64 which, vi, .agg #[.int .i64 k0, .int .i64 k1, .int .i64 k2], vo, .int .i64 now] W fun e w' => e = .returned (.bool true) ∧ Below W.heap.size W w' := by
  have hi3 : i = 0 ∨ i = 1 ∨ i = 2 := by omega
  have ho3 : o = 0 ∨ o = 1 ∨ o = 2 := by omega
  rcases hi3 with rfl | rfl | rfl <;> rcases ho3 with rfl | rfl | rfl
  · exact apart_00 hl h1 which k0 k1 k2 now gi go
  · exact apart_01 hl h1 which k0 k1 k2 now gi go
  · exact apart_02 hl h1 which k0 k1 k2 now gi go
  · exact apart_10 hl h1 which k0 k1 k2 now gi go
  · exact apart_11 hl h1 which k0 k1 k2 now gi go
  · exact apart_12 hl h1 which k0 k1 k2 now gi go
  · exact apart_20 hl h1 which k0 k1 k2 now gi go
  · exact apart_21 hl h1 which k0 k1 k2 now gi go
  · exact apart_22 hl h1 which k0 k1 k2 now gi go
theorem fbApart_door (os : Os) (args : Array Value) : laidMetH Tryd.prog Rows.fbApartRow.laid ((World.doorLaid Tryd.prog 400 os).forCall (fun _ _ => 0) ⟨#[], args, []⟩).memory :=
  laidMetH_of_parts3 (fuel := 8) (laidMet_of_run' 8 (by kernel_rfl) (by kernel_rfl)) (by kernel_rfl) (by kernel_rfl)
theorem fbApart_lifted (os : Os) (started : os.Started) (H : Type) (enc : TypeId × Value → H) :
    ReturnsInHanded {} Tryd.checked os 5 .any (fun w args => (Rows.fbApartSpec.pre enc Tryd.prog Tryd.f5 [] false w args ∧ laidMetH Tryd.prog Rows.fbApartRow.laid w) ∧ sizedMet enc Tryd.prog Tryd.f5 (OpenSpec.ofChange Rows.fbApartSpec) false w args)
      (Rows.fbApartSpec.post enc Tryd.prog Tryd.f5 false true false false) := by
  refine returnsInHanded_of_change_and (C := Tryd.checked) (X := fun w _ => laidMetH Tryd.prog Rows.fbApartRow.laid w) (fun _ _ _ hh h => h.of_heap hh) own started (by kernel_rfl) Tryd.func5
    (ChangeSpec.witness_shaped (enc := enc) (C := Tryd.checked) (os := os) (X := fun w _ => laidMetH Tryd.prog Rows.fbApartRow.laid w) false (World.doorLaid Tryd.prog 400 os) #[.int .i64 0, .slice none 0 0, .agg #[.int .i64 0, .int .i64 0, .int .i64 0], .slice none 0 0, .int .i64 0] 8 rfl (World.shaped_of_RefB (by kernel_rfl) (by kernel_rfl)) (by kernel_rfl) (by kernel_rfl) (by kernel_rfl) (fbApart_door os _)) ?_
  intro W base args ds gs before hval0 hW _ _ hL _
  have hval : ∀ (j : Nat) t v, Tryd.f5.params[j]? = some t → args[j]? = some v → Value.okWide Tryd.prog W .any base t v := hval0
  have hW' := hW
  obtain ⟨p, q, hA0, hV, rfl, hfz, hnd⟩ := hW
  have hA : DataW.TrodAll enc Tryd.prog W 0 (fun _ => true) true Tryd.f5.params.toList args.toList ds p := hA0
  rw [Tryd.params5] at hA hval
  obtain ⟨v0, v1, v2, v3, v4, d0, d1, d2, d3, d4, p0, p1, p2, p3, p4, rfl, rfl, rfl, g0, g1, g2, g3, g4⟩ := trodAll_five' hA
  have hlaid := of_laid hL
  have hsz : 1 < W.heap.size := below_cell (hlaid 0 (by decide))
  obtain ⟨rfl, rfl⟩ := trodVars_none hV
  obtain ⟨n0, rfl, _, _, _⟩ := open_int Tryd.underlying3 (hval 0 3 v0 rfl rfl) g0
  obtain ⟨n4, rfl, _, _, _⟩ := open_int Tryd.underlying2 (hval 4 2 v4 rfl rfl) g4
  obtain ⟨k0, k1, k2, rfl⟩ := open_keep (hval 2 34 v2 rfl rfl)
  obtain ⟨i, zi, bi, oi, ci, hi, gi⟩ := given_of (hval 1 26 v1 rfl rfl) g1
  obtain ⟨o, zo, bo, oo, co, ho, go⟩ := given_of (hval 3 26 v3 rfl rfl) g3
  have fin : ∀ e w', e = Ending.returned (.bool true) ∧ Below W.heap.size W w' → ∃ v, e = .returned v ∧ Rows.fbApartSpec.post enc Tryd.prog Tryd.f5 false true false false W #[.int .i64 n0, v1, .agg #[.int .i64 k0, .int .i64 k1, .int .i64 k2], v3, .int .i64 n4] v w' := by
    rintro e w' ⟨rfl, hb⟩
    exact ⟨_, rfl, law_post laidOut hW' rfl (by rw [Tryd.params5]; intro t ht; simp only [List.mem_cons, List.not_mem_nil, or_false] at ht; rcases ht with rfl | rfl | rfl | rfl | rfl <;> exact ⟨by kernel_rfl, of_decide_eq_true (by kernel_rfl)⟩) (by rfl) (tb := 4) rfl Tryd.underlying4 hb⟩
  exact (apart_at hlaid hsz n0 k0 k1 k2 n4 hi ho gi go).mono fun e w' h => fin e w' h
theorem fbApart_holds : Rows.FbApartSaid :=
  OpenClaim.holds_of_wide 5 Tryd.f5 rfl rfl rfl rfl rfl rfl rfl ⟨rfl, rfl, rfl, rfl, rfl⟩ rfl rfl rfl rfl rfl (by kernel_rfl) Tryd.func5 (by kernel_rfl)
    (of_decide_eq_true (by kernel_rfl)) (by unfold Func.isWrapper; first | (rw [if_pos (by decide +kernel)]; kernel_rfl) | (rw [if_neg (by decide +kernel)]; exact ⟨rfl, rfl⟩))
    (fun os started H enc _ => fbApart_lifted os started H enc)
theorem fbApart_card : Rows.FbApartCardSaid :=
  Claim7.holds_tied_plain_at .later [] [.listed, .data] true (true, "09fda92184a8400bbd2e43ac71c688daac006d731d374876dc34d34786d9df8f") true
    fbApart_holds (fun _ h => by cases h) (by kernel_rfl) (fun _ h => by cases h) fbApart_row_tie rfl ⟨rfl, rfl⟩ (by kernel_rfl) rfl
    (fun f fn hf hfn => by
      obtain rfl : f = 5 := Option.some.inj ((show Tryd.prog.funcNamed "rung/runglaw17.FbApart" = some 5 by kernel_rfl).symm.trans hf) |>.symm
      obtain rfl : fn = Tryd.f5 := (Option.some.inj (Tryd.func5.symm.trans hfn)).symm
      exact ⟨by kernel_rfl, fun j t ht => by
        rw [Tryd.params5] at ht
        have hm : t ∈ [3, 26, 34, 26, 2] := by simpa using Array.mem_of_getElem? ht
        have hall : ([3, 26, 34, 26, 2].all fun u => !Tryd.prog.wantsStandIn u) = true := by kernel_rfl
        exact (show Tryd.prog.wantsStandIn t = false by simpa using List.all_eq_true.1 hall t hm)⟩)
    (by kernel_rfl)
end Go.Proofs.YtkphkjffcpkhjaaDoor
end
#print axioms Go.Proofs.YtkphkjffcpkhjaaDoor.fbApart_card
