import Derived.Test.YtkphkjffcpkhjaaDoorSe9
import Derived.Laws.CopyOwn
/-! The symbolic executor: memory. -/
noncomputable section
set_option linter.unusedSimpArgs false
set_option linter.unusedVariables false
namespace Go.SE
open Go.RowKit (Below)
variable {P : Program}

theorem BlkOk.congr {B : Nat} {ρ : Env} {σ : Pl} {w w' : World} {b : Nat} {k : Blk} (h : BlkOk B ρ σ w b k) (he : w'.heap[(σ b).1]? = w.heap[(σ b).1]?) : BlkOk B ρ σ w' b k := by
  cases k with
  | cells l e tot => obtain ⟨h1, h2, c, hc, h3⟩ := h; exact ⟨h1, h2, c, he.trans hc, h3⟩
  | rows own ks x e tot =>
    cases own with
    | true => obtain ⟨h1, h2, c, hc, h3⟩ := h; exact ⟨h1, h2, c, he.trans hc, h3⟩
    | false =>
      obtain ⟨h1, h2⟩ := h
      refine ⟨h1, fun r j k hr hk => ?_⟩
      rw [← h2 r j k hr hk]
      exact World.cell?_of_block (w := w) (a := adr σ b (r * ks.length + j)) he
  | map k m st => obtain ⟨h1, h2, es, ck, hc, h3⟩ := h; exact ⟨h1, h2, es, ck, he.trans hc, h3⟩
theorem BlkOk.own_ge {B : Nat} {ρ : Env} {σ : Pl} {w : World} {b : Nat} {k : Blk} (h : BlkOk B ρ σ w b k) (hk : k.own = true) : B ≤ (σ b).1 ∧ (σ b).1 < w.heap.size := by
  cases k with
  | cells l e tot => obtain ⟨h1, h2, c, hc, h3⟩ := h; exact ⟨h1, (Array.getElem?_eq_some_iff.1 hc).1⟩
  | rows own ks x e tot =>
    simp only [Blk.own] at hk
    subst hk
    obtain ⟨h1, h2, c, hc, h3⟩ := h; exact ⟨h1, (Array.getElem?_eq_some_iff.1 hc).1⟩
  | map k m st => obtain ⟨h1, h2, es, ck, hc, h3⟩ := h; exact ⟨h1, (Array.getElem?_eq_some_iff.1 hc).1⟩
theorem BlkOk.view_lt {B : Nat} {ρ : Env} {σ : Pl} {w : World} {b : Nat} {k : Blk} (h : BlkOk B ρ σ w b k) (hk : k.own = false) : (σ b).1 < B := by
  cases k with
  | cells l e tot => simp [Blk.own] at hk
  | rows own ks x e tot =>
    simp only [Blk.own] at hk
    subst hk
    exact h.1
  | map k m st => simp [Blk.own] at hk

/-- One block of the call's own turned, or a new one. -/
theorem HOk.change {w0 : W0} {B : Nat} {ρ : Env} {σ : Pl} {h h' : H} {w w' : World} (r : HOk w0 B ρ σ h w) (b : Nat) (k : Blk) (hhp : h'.hp = fset b k h.hp) (hfs : h'.fs = h.fs)
    (hos : w'.os = w.os) (htp : w'.tape = w.tape) (hout : w'.output = w.output) (hsz : w.heap.size ≤ w'.heap.size)
    (hoth : ∀ i, i < w.heap.size → i ≠ (σ b).1 → w'.heap[i]? = w.heap[i]?) (hB : B ≤ (σ b).1)
    (hap : ∀ c l, c ≠ b → fget h.hp c = some l → l.own = true → (σ c).1 ≠ (σ b).1) (hk : BlkOk B ρ σ w' b k) : HOk w0 B ρ σ h' w' := by
  refine ⟨r.ip, r.lay, r.below.trans ⟨hos, htp, hout, hsz, fun i hi => hoth i (Nat.lt_of_lt_of_le hi r.size) (by omega)⟩, Nat.le_trans r.size hsz, ?_, ?_, by rw [hfs]; exact r.facts⟩
  · intro c l hc
    rw [hhp, fget_fset] at hc
    by_cases e : c = b
    · subst e; simp at hc; subst hc; exact hk
    · simp only [e, if_false] at hc
      have hl := r.blk c l hc
      cases ho : l.own with
      | true =>
        have := hl.own_ge ho
        exact hl.congr (hoth _ this.2 (hap c l e hc ho))
      | false =>
        have := hl.view_lt ho
        exact hl.congr (hoth _ (Nat.lt_of_lt_of_le this r.size) (by omega))
  · intro c d l m hc hd ol om e
    rw [hhp, fget_fset] at hc hd
    by_cases ec : c = b
    · by_cases ed : d = b
      · rw [ec, ed]
      · simp only [ed, if_false] at hd
        subst ec
        exact absurd e.symm (hap d m ed hd om)
    · by_cases ed : d = b
      · simp only [ec, if_false] at hc
        subst ed
        exact absurd e (hap c l ec hc ol)
      · simp only [ec, ed, if_false] at hc hd
        exact r.apart c d l m hc hd ol om e

/-- the number of a place that is written out. -/
def litX : X → Option Nat
  | .n v => some v.toNat
  | _ => none
theorem litX_nat {x : X} {n : Nat} (h : litX x = some n) (ρ : Env) : x.nat ρ = n := by
  unfold litX at h
  split at h
  · simp at h; simp [X.nat, X.den, h]
  · cases h

/-- the cells of a value of a type at a place of a block: what must hold, what is read. -/
def rdBlk (ty : Ty) : Blk → X → Nat → Nat → PR
  | .cells l _ _, r, w, j => (litX r).bind fun n =>
    bif ty.ul.known then
      (bif ty.ul.agg then (bif Nat.ble (n * w + j + ty.size) l.length then okp (.agg ((l.drop (n * w + j)).take ty.size)) else none)
        else okp' (l[n * w + j]?))
    else none
  | .rows _ ks x _ _, r, w, j =>
    bif ty.ul.known then
      (bif Nat.beq w ks.length then
        (bif ty.ul.agg then
          (bif Nat.ble (j + ty.size) ks.length then
            some (inB r (mLen x), .agg (((ks.zipIdx).drop j).take ty.size |>.map fun q => q.1.sv (rowX ks.length (mGet x r) q.2))) else none)
          else (ks[j]?).map fun k => (inB r (mLen x), k.sv (rowX ks.length (mGet x r) j)))
      else bif Nat.beq ks.length 1 then (bif ty.ul.agg then none else
          (litX r).bind fun n => (ks[0]?).map fun k => (inB (.n ((n * w + j : Nat) : Int)) (mLen x), k.sv (mGet x (.n ((n * w + j : Nat) : Int))))) else none)
    else none
  | .map .., _, _, _ => none

theorem adr_cells {w : World} {σ : Pl} {b : Nat} {c : Array Value} {e : TypeId} {fr : Nat × Nat} (h : w.heap[(σ b).1]? = some (.cells c e fr)) (h0 : (σ b).2 = 0) (j : Nat) :
    w.cell? (adr σ b j) = c[j]? := by
  simp [World.cell?, adr, h, h0]

theorem adr_in {σ : Pl} {b n j : Nat} : (adr σ b n).add j = adr σ b (n + j) := adr_add σ b n j

theorem rdBlk_ok {tt : Nat → Option Ty} (ht : TabOk P tt) {t : Nat} {ty : Ty} (hty : tt t = some ty) {B : Nat} {ρ : Env} {σ : Pl} {w : World} {b : Nat} {k : Blk} (hk : BlkOk B ρ σ w b k)
    {r : X} {wd j : Nat} {s : SV} {g : List X} (h : rdBlk ty k r wd j = some (g, s)) (hg : ∀ q ∈ g, (q.den ρ).asB = true) :
    (loadVar t (adr σ b (r.nat ρ * wd + j))).run P w = .ok (s.val ρ σ) w := by
  have hto := ht t ty hty
  cases k with
  | map => simp [rdBlk] at h
  | cells l e tot =>
    simp only [rdBlk] at h
    obtain ⟨n, hn, h⟩ := bind1 h
    rw [litX_nat hn ρ]
    obtain ⟨_, h0, c, hc, hcs, hcl⟩ := hk
    cases hkn : ty.ul.known with
    | false => simp [hkn] at h
    | true =>
      simp only [hkn, cond_true] at h
      unfold loadVar
      simp only [Sem.run_bind, run_agg_ok hto hkn, Result.andThen_ok]
      cases ha : ty.ul.agg with
      | true =>
        simp only [ha, cond_true] at h
        cases hb : Nat.ble (n * wd + j + ty.size) l.length with
        | false => simp [hb] at h
        | true =>
          simp only [hb, cond_true, okp, Option.some.injEq, Prod.mk.injEq] at h
          obtain ⟨rfl, rfl⟩ := h
          have hb' := Nat.le_of_ble_eq_true hb
          have hcells : ∀ i v, (((l.drop (n * wd + j)).take ty.size).map (SV.val ρ σ))[i]? = some v → w.cell? ((adr σ b (n * wd + j)).add i) = some v := by
            intro i v hv
            rw [adr_in, adr_cells hc h0]
            rw [List.getElem?_map] at hv
            cases hq : ((l.drop (n * wd + j)).take ty.size)[i]? with
            | none => simp [hq] at hv
            | some q =>
              simp [hq] at hv
              subst hv
              rw [List.getElem?_take] at hq
              split at hq
              · rw [List.getElem?_drop] at hq
                exact hcl _ _ hq
              · cases hq
          have hlen : (((l.drop (n * wd + j)).take ty.size).map (SV.val ρ σ)).length = ty.size := by simp; omega
          have := run_loadCells_list (P := P) (w := w) (adr σ b (n * wd + j)) _ hcells
          rw [hlen] at this
          simp only [if_true, Sem.run_bind, run_size_ok hto, Result.andThen_ok, this, Sem.run_pure, SV.val, vals_eq]
      | false =>
        simp only [ha, cond_false, okp'] at h
        cases hl : l[n * wd + j]? with
        | none => simp [hl] at h
        | some v =>
          simp only [hl, Option.map_some, Option.some.injEq, Prod.mk.injEq] at h
          obtain ⟨rfl, rfl⟩ := h
          have : w.cell? (adr σ b (n * wd + j)) = some (v.val ρ σ) := by rw [adr_cells hc h0]; exact hcl _ _ hl
          simp [this]
  | rows own ks x e tot =>
    have hcell : ∀ (r j : Nat) (k : CK), r < (x.den ρ).asL.length → ks[j]? = some k → w.cell? (adr σ b (r * ks.length + j)) = some (k.val (rowU ks.length ((x.den ρ).asL.getD r default) j)) := by
      intro r j k hr hkj
      cases own with
      | true =>
        obtain ⟨_, h0, c, hc, hcs, hcl⟩ := hk
        rw [adr_cells hc h0]
        exact hcl r j k hr hkj
      | false => exact hk.2 r j k hr hkj
    simp only [rdBlk] at h
    cases hkn : ty.ul.known with
    | false => simp [hkn] at h
    | true =>
      simp only [hkn, cond_true] at h
      unfold loadVar
      simp only [Sem.run_bind, run_agg_ok hto hkn, Result.andThen_ok]
      cases hw : Nat.beq wd ks.length with
      | true =>
        have hwd := beq_true.1 hw
        simp only [hw, cond_true] at h
        cases ha : ty.ul.agg with
        | true =>
          simp only [ha, cond_true] at h
          cases hb : Nat.ble (j + ty.size) ks.length with
          | false => simp [hb] at h
          | true =>
            simp only [hb, cond_true, Option.some.injEq, Prod.mk.injEq] at h
            obtain ⟨rfl, rfl⟩ := h
            have hb' := Nat.le_of_ble_eq_true hb
            have hr := inB_ok hg
            rw [mLen_den] at hr
            have hlt : r.nat ρ < (x.den ρ).asL.length := by unfold X.nat; omega
            have hcells : ∀ i v, ((((ks.zipIdx).drop j).take ty.size |>.map fun q => q.1.sv (rowX ks.length (mGet x r) q.2)).map (SV.val ρ σ))[i]? = some v →
                w.cell? ((adr σ b (r.nat ρ * wd + j)).add i) = some v := by
              intro i v hv
              rw [adr_in, hwd, Nat.add_assoc]
              simp only [List.getElem?_map, List.getElem?_take, List.getElem?_drop, List.getElem?_zipIdx] at hv
              split at hv
              · cases hq : ks[j + i]? with
                | none => simp [hq] at hv
                | some k =>
                  simp [hq] at hv
                  subst hv
                  rw [hcell _ _ _ hlt hq, CK.sv_val, rowX_den]
                  rw [mGet_den]; rfl
              · simp at hv
            have hlen : ((((ks.zipIdx).drop j).take ty.size |>.map fun q => q.1.sv (rowX ks.length (mGet x r) q.2)).map (SV.val ρ σ)).length = ty.size := by simp; omega
            have := run_loadCells_list (P := P) (w := w) (adr σ b (r.nat ρ * wd + j)) _ hcells
            rw [hlen] at this
            simp only [if_true, Sem.run_bind, run_size_ok hto, Result.andThen_ok, this, Sem.run_pure, SV.val, vals_eq]
        | false =>
          simp only [ha, cond_false] at h
          cases hkj : ks[j]? with
          | none => simp [hkj] at h
          | some k =>
            simp only [hkj, Option.map_some, Option.some.injEq, Prod.mk.injEq] at h
            obtain ⟨rfl, rfl⟩ := h
            have hr := inB_ok hg
            rw [mLen_den] at hr
            have hlt : r.nat ρ < (x.den ρ).asL.length := by unfold X.nat; omega
            have := hcell _ _ _ hlt hkj
            have hv : (k.sv (rowX ks.length (mGet x r) j)).val ρ σ = k.val (rowU ks.length ((x.den ρ).asL.getD (r.nat ρ) default) j) := by rw [CK.sv_val, rowX_den, mGet_den]; rfl
            rw [hwd, hv]
            simp only [Bool.false_eq_true, if_false, run_load, this, Sem.run_pure]
      | false =>
        simp only [hw, cond_false] at h
        cases h1 : Nat.beq ks.length 1 with
        | false => simp [h1] at h
        | true =>
          have hk1 := beq_true.1 h1
          simp only [h1, cond_true] at h
          cases ha : ty.ul.agg with
          | true => simp [ha] at h
          | false =>
            simp only [ha, cond_false] at h
            obtain ⟨n, hn, h⟩ := bind1 h
            cases hk0 : ks[0]? with
            | none => simp [hk0] at h
            | some k =>
              simp only [hk0, Option.map_some, Option.some.injEq, Prod.mk.injEq] at h
              obtain ⟨rfl, rfl⟩ := h
              have hr := inB_ok hg
              rw [mLen_den] at hr
              simp only [X.den, asI_i] at hr
              have hlt : n * wd + j < (x.den ρ).asL.length := by omega
              have := hcell _ _ _ hlt hk0
              rw [litX_nat hn ρ]
              rw [hk1] at this
              simp only [Nat.mul_one, Nat.add_zero] at this
              have hu : ∀ u : U, rowU 1 u 0 = u := fun u => by simp [rowU]
              rw [hu] at this
              have hv : (k.sv (mGet x (.n ((n * wd + j : Nat) : Int)))).val ρ σ = k.val ((x.den ρ).asL.getD (n * wd + j) default) := by rw [CK.sv_val, mGet_den]; rfl
              rw [hv]
              simp only [Bool.false_eq_true, if_false, run_load, this, Sem.run_pure]
end Go.SE
end
