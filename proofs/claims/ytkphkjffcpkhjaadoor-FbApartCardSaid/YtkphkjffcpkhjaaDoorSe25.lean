import Derived.Test.YtkphkjffcpkhjaaDoorSe22
import Derived.Laws.OwnMore
/-! The symbolic executor: append. -/
noncomputable section
set_option linter.unusedSimpArgs false
set_option linter.unusedVariables false
namespace Go.SE
open Go.RowKit (Below)
variable {P : Program}

/-- 'append' of at least one element: the row behind it is the old one, or a new one. -/
theorem append_full (w : World) (base : Nat) (t ty e : TypeId) (i : TypeInfo) (z : Value) (size bytes : Nat) (ht : P.underlying t = some (.slice e)) (hi : P.info? e = some i) (hz : i.zero = some z)
    (hsize : i.size = size) (hby : i.bytes = bytes) (hzs : z.cells.size = size) (hsz : 0 < size)
    (v : Value) (n : Nat) (xs : List Value) (hown : w.ownsRow base e size v n xs)
    (a : Addr) (m c : Nat) (news : List Value) (hm : 0 < m) (hl : news.length = m * size) (hnews : ∀ j u, news[j]? = some u → w.cell? (a.add j) = some u) (h1 : ∀ u ∈ news, u.oneCell' = true)
    (h63 : n + m ≤ maxLen) (hbytes : (n + m) * bytes ≤ 140737488355328) (hbase : base ≤ w.heap.size) :
    ∃ g' cap' cur w', (Builtin.append_ #[t, t] ty #[v, .slice (some a) m c]).run P w = .ok (.slice (some ⟨g', 0, none⟩) (n + m) cap') w' ∧ base ≤ g' ∧ w'.heap[g']? = some (.cells cur e (0, 0)) ∧
      n + m ≤ cap' ∧ cap' ≤ maxLen ∧ cur.size = cap' * size ∧ cur.toList.take ((n + m) * size) = xs ++ news ∧ w.grownBy w' v.ownBlock ∧ (v.ownBlock = some g' ∨ g' = w.heap.size) := by
  obtain ⟨v', w', hr, how, hgr, hnil⟩ := run_append_own (P := P) w base t ty e i z size bytes ht hi hz hsize hby hzs hsz v n xs hown a m c news hl hnews h1 h63 hbytes hbase
  rcases how.2 with ⟨h, _⟩ | ⟨g', cap', cur, rfl, k1, k2, k3, k4, k5, k6⟩
  · have := (hnil.1 h).2; omega
  refine ⟨g', cap', cur, w', hr, k1, k2, k3, k4, k5, k6, hgr, ?_⟩
  subst hsize hby
  have hsmall : n + m ≤ 9223372036854775807 := by simp only [maxLen] at h63; omega
  rcases hown.2 with ⟨rfl, rfl⟩ | ⟨g, cap, cur0, rfl, hbg, hg, hnc, hcm, hcs, htake⟩
  · right
    have hr2 := run_append_nil (P := P) w t ty e i z ht hi hz a m c news hl hnews (by omega) (by omega) (by have hb := hbytes; simp only [Nat.zero_add] at hb; omega)
    rw [hr] at hr2
    simp only [Result.ok.injEq, Value.slice.injEq, Option.some.injEq, Addr.mk.injEq] at hr2
    exact hr2.1.1.1
  · by_cases hroom : n + m ≤ cap
    · left
      have hfit : n * i.size + news.length ≤ cur0.size := by rw [hl, hcs, ← Nat.add_mul]; exact Nat.mul_le_mul_right _ hroom
      have hr2 := run_append_room (P := P) w t ty e i ht hi g n cap cur0 hg a m c news hl hnews h1 hroom hfit
      rw [hr] at hr2
      simp only [Result.ok.injEq, Value.slice.injEq, Option.some.injEq, Addr.mk.injEq] at hr2
      simp [Value.ownBlock, hr2.1.1.1]
    · right
      have holds : ∀ j u, xs[j]? = some u → w.cell? ((⟨g, 0, none⟩ : Addr).add j) = some u := hown.cells (g := g) rfl
      have hr2 := run_append_grow (P := P) w t ty e i z ht hi hz ⟨g, 0, none⟩ n cap xs hown.1 holds a m c news hl hnews (by omega) (by omega) (growslice_fits (by omega) hbytes)
      rw [hr] at hr2
      simp only [Result.ok.injEq, Value.slice.injEq, Option.some.injEq, Addr.mk.injEq] at hr2
      exact hr2.1.1.1

def maxL : Int := 9223372036854775807
def roomB : Int := 140737488355328
/-- the elements that are appended: written out, of a block of cells. -/
def appNews (h : H) (size : Nat) : SV → Option (Nat × List SV)
  | .slice b j r w (.n m) _ => (litX r).bind fun r => (fget h.hp b).bind fun k => match k with
    | .cells l _ _ => let c := (l.drop (r * w + j)).take (m.toNat * size)
      bif Nat.blt 0 m.toNat && (Nat.beq c.length (m.toNat * size) && c.all SV.one) then some (m.toNat, c) else none
    | _ => none
  | _ => none
/-- a cell's expression. -/
def CK.of : CK → SV → Option X
  | .int k, .int l x => bif decide (k = l) then some x else none
  | .bool, .bool x => some x
  | .str, .str x => some x
  | _, _ => none
theorem CK.of_ok {k : CK} {s : SV} {x : X} (h : k.of s = some x) (ρ : Env) (σ : Pl) : s.val ρ σ = k.val (x.den ρ) := by
  cases k <;> cases s <;> simp only [CK.of, reduceCtorEq, Option.some.injEq] at h
  · rename_i k l y
    cases hc : decide (k = l) with
    | false => simp [hc] at h
    | true =>
      have := of_decide_eq_true hc
      subst this
      simp [hc] at h
      subst h; rfl
  · subst h; rfl
  · subst h; rfl
def consL : List X → X
  | [] => .nil
  | a :: l => .o .cons a (consL l)
theorem consL_den (ρ : Env) : ∀ l : List X, (consL l).den ρ = .l (l.map (X.den ρ))
  | [] => rfl
  | a :: l => by simp [consL, X.den, O2.den, consL_den ρ l]
def ofAll : List CK → List SV → Option (List X)
  | [], [] => some []
  | k :: ks, s :: l => (k.of s).bind fun x => (ofAll ks l).map fun r => x :: r
  | _, _ => none
theorem ofAll_ok : ∀ {ks : List CK} {l : List SV} {xs : List X}, ofAll ks l = some xs → ∀ (ρ : Env) (σ : Pl), l.length = ks.length ∧ xs.length = ks.length ∧ ∀ (j : Nat) (k : CK) (x : X), ks[j]? = some k → xs[j]? = some x → (l.map (SV.val ρ σ))[j]? = some (k.val (x.den ρ))
  | [], [], xs, h, ρ, σ => by simp only [ofAll, Option.some.injEq] at h; subst h; simp
  | [], _ :: _, xs, h, ρ, σ => by cases h
  | _ :: _, [], xs, h, ρ, σ => by cases h
  | k :: ks, s :: l, xs, h, ρ, σ => by
    simp only [ofAll] at h
    obtain ⟨x, h1, h⟩ := bind1 h
    rw [Option.map_eq_some_iff] at h
    obtain ⟨r, h2, rfl⟩ := h
    obtain ⟨a1, a2, a3⟩ := ofAll_ok h2 ρ σ
    refine ⟨by simp [a1], by simp [a2], fun j k' x' hk hx => ?_⟩
    cases j with
    | zero =>
      simp only [List.getElem?_cons_zero, Option.some.injEq] at hk hx
      subst hk hx
      simp [CK.of_ok h1 ρ σ]
    | succ j =>
      simp only [List.getElem?_cons_succ] at hk hx
      simpa using a3 j k' x' hk hx
/-- one element of a row of cells of these kinds. -/
def elemX (ks : List CK) (l : List SV) : Option X := (ofAll ks l).map fun xs => match ks, xs with
  | [_], [x] => x
  | _, xs => consL xs
theorem elemX_ok {ks : List CK} {l : List SV} {x : X} (h : elemX ks l = some x) (ρ : Env) (σ : Pl) : l.length = ks.length ∧ ∀ (j : Nat) (k : CK), ks[j]? = some k → (l.map (SV.val ρ σ))[j]? = some (k.val (rowU ks.length (x.den ρ) j)) := by
  unfold elemX at h
  rw [Option.map_eq_some_iff] at h
  obtain ⟨xs, h1, h⟩ := h
  obtain ⟨a1, a2, a3⟩ := ofAll_ok h1 ρ σ
  refine ⟨a1, fun j k hk => ?_⟩
  have hj := (List.getElem?_eq_some_iff.1 hk).1
  have hx : xs[j]? = some xs[j] := List.getElem?_eq_getElem (by omega)
  rw [a3 j k _ hk hx]
  congr 2
  split at h
  · subst h
    have : j = 0 := by simpa using hj
    subst this
    rfl
  · rename_i hn
    subst h
    have hne : Nat.beq ks.length 1 = false := by
      rw [beq_false]
      intro h1
      obtain ⟨k0, hk0⟩ := List.length_eq_one_iff.1 h1
      obtain ⟨x0, hx0⟩ := List.length_eq_one_iff.1 (a2.trans h1)
      exact hn k0 x0 hk0 hx0
    simp only [rowU, hne, cond_false, consL_den, asL_l, List.getD_eq_getElem?_getD, List.getElem?_map, hx]
    rfl
def xeq' (a b : X) : Bool := match a, b with
  | .n a, .n b => decide (a = b)
  | .o .mul (.v a) (.n m), .o .mul (.v b) (.n n) => Nat.beq a b && decide (m = n)
  | _, _ => false
/-- what must hold, the new slice's length, its block, the facts, the block that is given up. -/
structure App where
  obs : List X
  len : X
  blk : Blk
  off : Option Nat
def appBlk (e : Nat) (ety : Ty) (tot : X) (m : Nat) (news : List SV) (b : Nat) (len cap : X) : Blk → Option App
  | .cells l e' tot0 => (litX len).bind fun n =>
    bif Nat.beq e e' && (Nat.ble (n * ety.size) l.length && (xeq' tot0 (mI2 .mul cap (.n ety.size)) && (Nat.ble ((n + m) * ety.bytes) 140737488355328 && Nat.ble (n + m) 9223372036854775807))) then
      some ⟨[mB2 .le (.n n) cap, mB2 .le cap (.n maxL)], .n (n + m : Nat), .cells (l.take (n * ety.size) ++ news) e tot, some b⟩ else none
  | .rows own ks r e' tot0 =>
    bif own && (Nat.beq e e' && (Nat.beq ks.length ety.size && (xeq' tot0 (mI2 .mul cap (.n ety.size)) && Nat.beq m 1))) then (elemX ks news).map fun u =>
      ⟨[mB2 .le (.n 0) len, mB2 .eq len (mLen r), mB2 .le len cap, mB2 .le cap (.n maxL), mB2 .le (mI2 .mul (mI2 .add len (.n 1)) (.n ety.bytes)) (.n roomB), mB2 .le (mI2 .add len (.n 1)) (.n maxL)],
        mI2 .add len (.n 1), .rows true ks (.o .snoc r u) e tot, some b⟩ else none
  | .map .. => none
def appOne (h : H) (e : Nat) (ety : Ty) (tot : X) (m : Nat) (news : List SV) : SV → Option App
  | .nils => bif Nat.ble (m * ety.bytes) 140737488355328 && Nat.ble m 9223372036854775807 then some ⟨[], .n m, .cells news e tot, none⟩ else none
  | .slice b j r w len cap => bif Nat.beq j 0 && (xeq r (.n 0) && Nat.beq w ety.size) then (fget h.hp b).bind (appBlk e ety tot m news b len cap) else none
  | _ => none
/-- the outcomes. -/
def mAppend (tt : Nat → Option Ty) (h : H) (d : Option Nat) (t : Nat) (x y : SV) : Option (List X × List (SV × H)) :=
  (tt t).bind fun ty => match ty.ul with
  | .slice e => (tt e).bind fun ety => ety.zero.bind fun z =>
    bif Nat.beq z.cells.length ety.size && Nat.blt 0 ety.size then (appNews h ety.size y).bind fun q =>
      (newB h d).bind fun p1 => (newV p1.2 d).bind fun p2 => (appOne h e ety (mI2 .mul (.v p2.1) (.n ety.size)) q.1 q.2 x).map fun r =>
        (r.obs, [(.slice p1.1 0 (.n 0) ety.size r.len (.v p2.1),
          { p2.2 with hp := fset p1.1 r.blk (match r.off with | some b => fdel b h.hp | none => h.hp), fs := [.x (.o .le r.len (.v p2.1)), .x (.o .le (.v p2.1) (.n maxL))] ++ h.fs })])
    else none
  | _ => none

theorem xeq'_ok {a b : X} (h : xeq' a b = true) (ρ : Env) : (a.den ρ).asI = (b.den ρ).asI := by
  unfold xeq' at h
  split at h
  · simp at h; simp [X.den, h]
  · simp only [Bool.and_eq_true, beq_true, decide_eq_true_eq] at h
    simp [X.den, O2.den, h.1, h.2]
  · cases h
theorem app_fin {w0 : W0} {B : Nat} {ρ : Env} {σ : Pl} {h h1 h2 : H} {w w' : World} {id c : Nat} (hr : HRep w0 B ρ σ h w) (hn : NewB h h1 id) (hv : NewV h1 h2 c) {hp0 : List (Nat × Blk)}
    (row : Option Nat) (hrow : ∀ k, row = some k → B ≤ k) (hp : ∀ ρ1 σ1, Ext h ρ ρ1 σ σ1 → ∀ i k, fget hp0 i = some k → fget h.hp i = some k ∧ (k.own = true → some (σ1 i).1 ≠ row))
    {g' cap' : Nat} (hg : B ≤ g') (hgr : w.grownBy w' row) (hw : row = some g' ∨ g' = w.heap.size) (k : Blk) (F : List Fact)
    (hk : ∀ ρ1 σ1, HOk w0 B ρ1 σ1 h w → Ext h ρ ρ1 σ σ1 → ρ1.v c = .i cap' → σ1 id = (g', 0) → BlkOk B ρ1 σ1 w' id k ∧ ∀ f ∈ F, f.ok ρ1) :
    ∃ ρ' σ', Ext h ρ ρ' σ σ' ∧ h.le { h2 with hp := fset id k hp0, fs := F ++ h.fs } ∧ HRep w0 B ρ' σ' { h2 with hp := fset id k hp0, fs := F ++ h.fs } w' ∧
      ∀ ρ1 σ1, Ext { h2 with hp := fset id k hp0, fs := F ++ h.fs } ρ' ρ1 σ' σ1 → ρ1.v c = .i cap' ∧ σ1 id = (g', 0) ∧ Ext h ρ ρ1 σ σ1 := by
  have hle : h.le h2 := hn.le.trans hv.le
  have hidne : ∀ i, h.alB i → i ≠ id := fun i hi e => hn.fresh (e ▸ hi)
  have hcne : ∀ i, h.alV i → i ≠ c := fun i hi e => hv.fresh (e ▸ hn.le.v i hi)
  have e0 : Ext h ρ (setV ρ c (.i cap')) σ (fun i => if i = id then (g', 0) else σ i) :=
    ⟨rfl, rfl, fun i hi => by simp [setV, hcne i hi], fun i hi => by simp [hidne i hi]⟩
  have key : ∀ ρ1 σ1, Ext { h2 with hp := fset id k hp0, fs := F ++ h.fs } (setV ρ c (.i cap')) ρ1 (fun i => if i = id then (g', 0) else σ i) σ1 → ρ1.v c = .i cap' ∧ σ1 id = (g', 0) ∧ Ext h ρ ρ1 σ σ1 := by
    intro ρ1 σ1 he
    refine ⟨?_, ?_, e0.trans he hle.v hle.b⟩
    · rw [he.v c hv.al]; simp [setV]
    · rw [he.b id (hv.le.b _ hn.al)]; simp
  refine ⟨_, _, e0, ⟨hle.v, hle.b⟩, fun ρ1 σ1 he => ?_, key⟩
  obtain ⟨k1, k2, k3⟩ := key ρ1 σ1 he
  have r := hr _ _ k3
  obtain ⟨k4, k5⟩ := hk ρ1 σ1 r k3 k1 k2
  have hold : ∀ i l, fget hp0 i = some l → (σ1 i).1 < w.heap.size ∧ some (σ1 i).1 ≠ row := by
    intro i l hi
    obtain ⟨a1, a2⟩ := hp ρ1 σ1 k3 i l hi
    cases ho : l.own with
    | true => exact ⟨((r.blk i l a1).own_ge ho).2, a2 ho⟩
    | false =>
      have := (r.blk i l a1).view_lt ho
      refine ⟨Nat.lt_of_lt_of_le this r.size, fun e => ?_⟩
      have := hrow _ e.symm
      omega
  refine ⟨r.ip, r.lay, r.below.trans ⟨hgr.os, hgr.tape, hgr.output, hgr.size, fun i hi => hgr.block i (Nat.lt_of_lt_of_le hi r.size) fun e => by have := hrow _ e.symm; omega⟩, Nat.le_trans r.size hgr.size, ?_, ?_, ?_⟩
  · intro i l hi
    rw [fget_fset] at hi
    by_cases e : i = id
    · subst e; simp at hi; subst hi; exact k4
    · simp only [e, if_false] at hi
      obtain ⟨a1, a2⟩ := hold i l hi
      exact (r.blk i l (hp ρ1 σ1 k3 i l hi).1).congr (hgr.block _ a1 a2)
  · have far : ∀ i l, i ≠ id → fget hp0 i = some l → (σ1 i).1 ≠ g' := by
      intro i l _ hi
      obtain ⟨a1, a2⟩ := hold i l hi
      rcases hw with hw | hw
      · intro e; exact a2 (by rw [hw, e])
      · omega
    intro i j l m hi hj ol om e
    rw [fget_fset] at hi hj
    by_cases ei : i = id
    · by_cases ej : j = id
      · rw [ei, ej]
      · simp only [ej, if_false] at hj
        rw [ei, k2] at e
        exact absurd e.symm (far j m ej hj)
    · by_cases ej : j = id
      · simp only [ei, if_false] at hi
        rw [ej, k2] at e
        exact absurd e (far i l ei hi)
      · simp only [ei, ej, if_false] at hi hj
        exact r.apart i j l m (hp ρ1 σ1 k3 i l hi).1 (hp ρ1 σ1 k3 j m hj).1 ol om e
  · intro f hf
    simp only [List.mem_append] at hf
    rcases hf with hf | hf
    · exact k5 f hf
    · exact r.facts f hf

theorem appNews_ok {h : H} {size m : Nat} {y : SV} {c : List SV} (e : appNews h size y = some (m, c)) {w0 : W0} {B : Nat} {ρ : Env} {σ : Pl} {w : World} (r : HOk w0 B ρ σ h w) :
    ∃ a cap, y.val ρ σ = .slice (some a) m cap ∧ 0 < m ∧ c.length = m * size ∧ (∀ j u, (c.map (SV.val ρ σ))[j]? = some u → w.cell? (a.add j) = some u) ∧ ∀ u ∈ c.map (SV.val ρ σ), u.oneCell' = true := by
  unfold appNews at e
  split at e
  case h_2 => cases e
  rename_i b j r0 w0' m0 cap
  obtain ⟨rn, h1, e⟩ := bind1 e
  obtain ⟨k, h2, e⟩ := bind1 e
  split at e
  case h_2 => cases e
  rename_i l el tot
  simp only at e
  obtain ⟨h3, e⟩ := bnd e
  simp only [Prod.mk.injEq] at e
  obtain ⟨rfl, rfl⟩ := e
  simp only [Bool.and_eq_true, beq_true, Nat.blt_eq, List.all_eq_true] at h3
  obtain ⟨h3, h4, h5⟩ := h3
  obtain ⟨k1, k2, cc, k3, k4, k5⟩ := r.blk b _ h2
  refine ⟨_, _, rfl, h3, h4, fun i u hu => ?_, fun u hu => ?_⟩
  · rw [List.getElem?_map] at hu
    cases hq : ((l.drop (rn * w0' + j)).take (m0.toNat * size))[i]? with
    | none => simp [hq] at hu
    | some q =>
      simp [hq] at hu
      subst hu
      rw [List.getElem?_take] at hq
      split at hq
      · rw [List.getElem?_drop] at hq
        rw [litX_nat h1 ρ, adr_in, adr_cells k3 k2]
        exact k5 _ _ hq
      · cases hq
  · rw [List.mem_map] at hu
    obtain ⟨q, hq, rfl⟩ := hu
    exact SV.one_val (h5 q hq)

theorem cells_take {ρ : Env} {σ : Pl} {l : List SV} {c : Array Value} {n : Nat} (hn : n ≤ l.length) (hc : ∀ (i : Nat) (v : SV), l[i]? = some v → c[i]? = some (v.val ρ σ)) : c.toList.take n = (l.take n).map (SV.val ρ σ) := by
  apply List.ext_getElem?
  intro i
  rw [List.getElem?_take, List.getElem?_map, List.getElem?_take]
  by_cases hi : i < n
  · simp only [hi, if_true]
    have hl : l[i]? = some l[i] := List.getElem?_eq_getElem (by omega)
    rw [hl, Array.getElem?_toList, hc i _ hl]; rfl
  · simp [hi]
theorem totn {ρ1 : Env} {c cap' n : Nat} (h : ρ1.v c = .i cap') : (mI2 .mul (.v c) (.n n)).nat ρ1 = cap' * n := by
  simp only [X.nat, mI2_den, O2.den, X.den, h, asI_i]
  rw [← Int.natCast_mul]; rfl
/-- what a grown row is. -/
structure Grown (w w' : World) (B : Nat) (e size : Nat) (row : Option Nat) (g' cap' n' : Nat) (cells : List Value) : Prop where
  ge : B ≤ g'
  at' : ∃ cur, w'.heap[g']? = some (.cells cur e (0, 0)) ∧ cur.size = cap' * size ∧ cur.toList.take (n' * size) = cells
  le : n' ≤ cap'
  max : cap' ≤ maxLen
  by' : w.grownBy w' row
  wh : row = some g' ∨ g' = w.heap.size
theorem appOne_ok {h : H} {e : Nat} {ety : Ty} {c m : Nat} {news : List SV} {x : SV} {r : App} (ha : appOne h e ety (mI2 .mul (.v c) (.n ety.size)) m news x = some r)
    {t ty : Nat} (hu : P.underlying t = some (.slice e)) {i : TypeInfo} {z : Value} (hi : P.info? e = some i) (hsize : i.size = ety.size) (hbytes : i.bytes = ety.bytes) (hz : i.zero = some z) (hzs : z.cells.size = ety.size) (hsz : 0 < ety.size)
    {w0 : W0} {B : Nat} {ρ : Env} {σ : Pl} {w : World} (hr : HRep w0 B ρ σ h w) {vx : Value} (hx : ∀ ρ1 σ1, Ext h ρ ρ1 σ σ1 → vx = x.val ρ1 σ1)
    {ya : Addr} {yc : Nat} (hm : 0 < m) (hnl : news.length = m * ety.size) (hncell : ∀ j u, (news.map (SV.val ρ σ))[j]? = some u → w.cell? (ya.add j) = some u) (hnone : ∀ u ∈ news.map (SV.val ρ σ), u.oneCell' = true)
    (hnsame : ∀ ρ1 σ1, Ext h ρ ρ1 σ σ1 → news.map (SV.val ρ1 σ1) = news.map (SV.val ρ σ)) (hg : ∀ ρ : Env, ρ.f = w0.i.f ∧ ρ.p = w0.i.p → (∀ f ∈ h.fs, f.ok ρ) → ∀ q ∈ r.obs, (q.den ρ).asB = true) :
    ∃ g' cap' w' row cells, (Builtin.append_ #[t, t] ty #[vx, .slice (some ya) m yc]).run P w = .ok (.slice (some ⟨g', 0, none⟩) (r.len.nat ρ) cap') w' ∧ Grown w w' B e ety.size row g' cap' (r.len.nat ρ) cells ∧ 0 ≤ (r.len.den ρ).asI ∧
      (∀ k, row = some k → B ≤ k) ∧
      (∀ ρ1 σ1, Ext h ρ ρ1 σ σ1 → ∀ i k, fget (match r.off with | some b => fdel b h.hp | none => h.hp) i = some k → fget h.hp i = some k ∧ (k.own = true → some (σ1 i).1 ≠ row)) ∧
      ∀ ρ1 σ1 id, HOk w0 B ρ1 σ1 h w → Ext h ρ ρ1 σ σ1 → ρ1.v c = .i cap' → σ1 id = (g', 0) → (r.len.den ρ1).asI = (r.len.den ρ).asI ∧ BlkOk B ρ1 σ1 w' id r.blk := by
  have hnow := hr.now
  have hnl' : (news.map (SV.val ρ σ)).length = m * ety.size := by rw [List.length_map]; exact hnl
  cases x with
  | nils =>
    simp only [appOne] at ha
    obtain ⟨hc1, rfl⟩ := bnd ha
    simp only [Bool.and_eq_true, Nat.ble_eq] at hc1
    have hvx : vx = .slice none 0 0 := hx ρ σ (Ext.refl _ _ _)
    obtain ⟨g', cap', cur, w', hrun, k1, k2, k3, k4, k5, k6, k7, k8⟩ := append_full (P := P) w B t ty e i z ety.size ety.bytes hu hi hz hsize hbytes hzs hsz _ 0 [] (World.ownsRow_nil w B e ety.size) ya m yc (news.map (SV.val ρ σ)) hm hnl' hncell hnone
      (by simp only [maxLen]; omega) (by rw [Nat.zero_add]; exact hc1.1) hnow.size
    simp only [Nat.zero_add, List.nil_append] at hrun k3 k6
    have hlen : (X.n (m : Int)).nat ρ = m := by simp [X.nat, X.den]
    refine ⟨g', cap', w', none, news.map (SV.val ρ σ), by rw [hvx, hlen]; exact hrun, ⟨k1, ⟨cur, k2, k5, by rw [hlen]; exact k6⟩, by rw [hlen]; exact k3, k4, k7, by simpa [Value.ownBlock] using k8⟩, by simp [X.den], by simp, fun ρ1 σ1 _ i k hk => ⟨hk, by simp⟩, ?_⟩
    intro ρ1 σ1 id r1 he hcv hid
    refine ⟨rfl, by rw [hid]; exact k1, by rw [hid], cur, by rw [hid]; exact k2, by rw [totn hcv, k5], fun j v hj => ?_⟩
    have h7 : (news.map (SV.val ρ1 σ1))[j]? = some (v.val ρ1 σ1) := by simp [hj]
    rw [hnsame ρ1 σ1 he, ← k6, List.getElem?_take] at h7
    split at h7
    · simpa using h7
    · cases h7
  | slice b j r0 wd len cap =>
    simp only [appOne] at ha
    obtain ⟨hc0, ha1⟩ := bndo ha
    clear ha
    simp only [Bool.and_eq_true, beq_true] at hc0
    obtain ⟨hj0, hr0, hw0⟩ := hc0
    have hr0 := xeq_eq hr0
    subst hr0 hj0 hw0
    obtain ⟨k, hb, ha⟩ := bind1 ha1
    clear ha1
    have hvx : vx = .slice (some (adr σ b 0)) (len.nat ρ) (cap.nat ρ) := by rw [hx ρ σ (Ext.refl _ _ _)]; simp [SV.val, X.nat, X.den]
    have hvals : ∀ ρ1 σ1, Ext h ρ ρ1 σ σ1 → (σ1 b).1 = (σ b).1 ∧ len.nat ρ1 = len.nat ρ := by
      intro ρ1 σ1 he
      have := hx ρ1 σ1 he
      rw [hvx] at this
      simp only [SV.val, adr, Value.slice.injEq, Option.some.injEq, Addr.mk.injEq] at this
      exact ⟨this.1.1.symm, this.2.1.symm⟩
    have hdel : ∀ (ho : k.own = true) ρ1 σ1, Ext h ρ ρ1 σ σ1 → ∀ i l, fget (fdel b h.hp) i = some l → fget h.hp i = some l ∧ (l.own = true → some (σ1 i).1 ≠ some (σ b).1) := by
      intro ho ρ1 σ1 he i l hi
      rw [fget_fdel] at hi
      by_cases eb : i = b
      · simp [eb] at hi
      · simp only [eb, if_false] at hi
        refine ⟨hi, fun hl e => ?_⟩
        simp only [Option.some.injEq] at e
        exact eb ((hr _ _ he).apart i b l k hi hb hl ho (by rw [e, (hvals ρ1 σ1 he).1]))
    cases k with
    | map => simp [appBlk] at ha
    | cells l e' tot0 =>
      simp only [appBlk] at ha
      obtain ⟨n, hln, ha⟩ := bind1 ha
      obtain ⟨hc1, hrr⟩ := bnd ha
      clear ha
      subst hrr
      simp only [Bool.and_eq_true, Nat.ble_eq, beq_true] at hc1
      obtain ⟨he', c1, c2, c3, c4⟩ := hc1
      subst he'
      have hlen : len.nat ρ = n := litX_nat hln ρ
      have hob := hg ρ hnow.ip hnow.facts
      have o1 := hob _ List.mem_cons_self
      have o2 := hob _ (List.mem_cons_of_mem _ List.mem_cons_self)
      simp only [mB2_den, O2.den, X.den, asB_b, asI_i, ile_iff] at o1 o2
      obtain ⟨b1, b2, cc, b3, b4, b5⟩ := hnow.blk b _ hb
      have hxt := xeq'_ok c2 ρ
      simp only [mI2_den, O2.den, X.den, asI_i] at hxt
      have hcap : cc.size = cap.nat ρ * ety.size := by
        rw [b4]; unfold X.nat; rw [hxt]
        rw [Int.toNat_mul (by omega) (by omega)]; simp
      have how : w.ownsRow B e ety.size (.slice (some ⟨(σ b).1, 0, none⟩) n (cap.nat ρ)) n ((l.take (n * ety.size)).map (SV.val ρ σ)) := by
        refine ⟨by simp; omega, .inr ⟨(σ b).1, cap.nat ρ, cc, rfl, b1, b3, by unfold X.nat; omega, by unfold X.nat; simp only [maxL] at o2; simp only [maxLen]; omega, hcap, cells_take c1 b5⟩⟩
      obtain ⟨g', cap', cur, w', hrun, k1, k2, k3, k4, k5, k6, k7, k8⟩ := append_full (P := P) w B t ty e i z ety.size ety.bytes hu hi hz hsize hbytes hzs hsz _ n _ how ya m yc (news.map (SV.val ρ σ)) hm hnl' hncell hnone
        (by simp only [maxLen]; omega) c3 hnow.size
      have hl2 : (X.n ((n + m : Nat) : Int)).nat ρ = n + m := by simp only [X.nat, X.den, asI_i]; omega
      refine ⟨g', cap', w', some (σ b).1, (l.take (n * ety.size)).map (SV.val ρ σ) ++ news.map (SV.val ρ σ), ?_, ⟨k1, ⟨cur, k2, k5, by rw [hl2]; exact k6⟩, by rw [hl2]; exact k3, k4, k7, by simpa [Value.ownBlock] using k8⟩, by simp only [X.den, asI_i]; omega, by intro k hk; cases hk; exact b1, hdel rfl, ?_⟩
      · rw [hvx, hlen, hl2]
        have : adr σ b 0 = ⟨(σ b).1, 0, none⟩ := by simp [adr, b2]
        rw [this]; exact hrun
      · intro ρ1 σ1 id r1 he hcv hid
        have hlsame : (l.take (n * ety.size)).map (SV.val ρ1 σ1) = (l.take (n * ety.size)).map (SV.val ρ σ) := by
          obtain ⟨_, _, cc1, b31, _, b51⟩ := r1.blk b _ hb
          rw [(hvals ρ1 σ1 he).1, b3] at b31
          cases b31
          rw [← cells_take c1 b51, ← cells_take c1 b5]
        refine ⟨rfl, by rw [hid]; exact k1, by rw [hid], cur, by rw [hid]; exact k2, by rw [totn hcv, k5], fun j v hj => ?_⟩
        have h7 : ((l.take (n * ety.size) ++ news).map (SV.val ρ1 σ1))[j]? = some (v.val ρ1 σ1) := by rw [List.getElem?_map, hj]; rfl
        rw [List.map_append, hlsame, hnsame ρ1 σ1 he, ← k6, List.getElem?_take] at h7
        split at h7
        · simpa using h7
        · cases h7
    | rows own ks r0 e' tot0 =>
      simp only [appBlk] at ha
      obtain ⟨hc1, ha1⟩ := bndo ha
      clear ha
      simp only [Bool.and_eq_true, Nat.ble_eq, beq_true] at hc1
      obtain ⟨hown1, he', c1, c2, hm1⟩ := hc1
      subst hown1 he' hm1
      rw [Option.map_eq_some_iff] at ha1
      obtain ⟨u, hu2, hrr⟩ := ha1
      subst hrr
      have ob : ∀ (n : Nat) (q : X), ([mB2 O2.le (X.n 0) len, mB2 .eq len (mLen r0), mB2 .le len cap, mB2 .le cap (.n maxL), mB2 .le (mI2 .mul (mI2 .add len (.n 1)) (.n ety.bytes)) (.n roomB), mB2 .le (mI2 .add len (.n 1)) (.n maxL)])[n]? = some q → (q.den ρ).asB = true := fun n q hq => hg ρ hnow.ip hnow.facts q (List.mem_of_getElem? hq)
      have o1 := ob 0 _ rfl
      have o2 := ob 1 _ rfl
      have o3 := ob 2 _ rfl
      have o4 := ob 3 _ rfl
      have o5 := ob 4 _ rfl
      have o6 := ob 5 _ rfl
      simp only [mB2_den, mI2_den, mLen_den, O2.den, X.den, asB_b, asI_i, ile_iff, ieq_iff, maxL, roomB] at o1 o2 o3 o4 o5 o6
      obtain ⟨b1, b2, cc, b3, b4, b5⟩ := hnow.blk b _ hb
      have hxt := xeq'_ok c2 ρ
      simp only [mI2_den, O2.den, X.den, asI_i] at hxt
      have hcap : cc.size = cap.nat ρ * ety.size := by
        rw [b4]; unfold X.nat; rw [hxt]
        rw [Int.toNat_mul (by omega) (by omega)]; simp
      have hln : len.nat ρ = (r0.den ρ).asL.length := by unfold X.nat; omega
      obtain ⟨eu1, eu2⟩ := elemX_ok hu2 ρ σ
      have hbn : len.nat ρ * ety.size ≤ cc.size := by rw [hcap]; exact Nat.mul_le_mul_right _ (by unfold X.nat; omega)
      have how : w.ownsRow B e ety.size (.slice (some ⟨(σ b).1, 0, none⟩) (len.nat ρ) (cap.nat ρ)) (len.nat ρ) (cc.toList.take (len.nat ρ * ety.size)) := by
        refine ⟨by simp; omega, .inr ⟨(σ b).1, cap.nat ρ, cc, rfl, b1, b3, by unfold X.nat; omega, by unfold X.nat; simp only [maxLen]; omega, hcap, rfl⟩⟩
      obtain ⟨g', cap', cur, w', hrun, k1, k2, k3, k4, k5, k6, k7, k8⟩ := append_full (P := P) w B t ty e i z ety.size ety.bytes hu hi hz hsize hbytes hzs hsz _ (len.nat ρ) _ how ya 1 yc (news.map (SV.val ρ σ)) hm hnl' hncell hnone
        (by unfold X.nat; simp only [maxLen]; omega) (by
          have : ((((len.den ρ).asI.toNat + 1) * ety.bytes : Nat) : Int) ≤ 140737488355328 := by
            rw [Int.natCast_mul, Int.natCast_add, Int.toNat_of_nonneg o1]; exact o5
          unfold X.nat; omega) hnow.size
      have hl2 : (mI2 .add len (.n 1)).nat ρ = len.nat ρ + 1 := by simp only [X.nat, mI2_den, O2.den, X.den, asI_i]; omega
      refine ⟨g', cap', w', some (σ b).1, cc.toList.take (len.nat ρ * ety.size) ++ news.map (SV.val ρ σ), ?_, ⟨k1, ⟨cur, k2, k5, by rw [hl2]; exact k6⟩, by rw [hl2]; exact k3, k4, k7, by simpa [Value.ownBlock] using k8⟩, by simp only [mI2_den, O2.den, X.den, asI_i]; omega, by intro k hk; cases hk; exact b1, hdel rfl, ?_⟩
      · rw [hvx, hl2]
        have : adr σ b 0 = ⟨(σ b).1, 0, none⟩ := by simp [adr, b2]
        rw [this]; exact hrun
      · intro ρ1 σ1 id r1 he hcv hid
        obtain ⟨hv1, hv2⟩ := hvals ρ1 σ1 he
        have ob1 : ∀ (n : Nat) (q : X), ([mB2 O2.le (X.n 0) len, mB2 .eq len (mLen r0), mB2 .le len cap, mB2 .le cap (.n maxL), mB2 .le (mI2 .mul (mI2 .add len (.n 1)) (.n ety.bytes)) (.n roomB), mB2 .le (mI2 .add len (.n 1)) (.n maxL)])[n]? = some q → (q.den ρ1).asB = true := fun n q hq => hg ρ1 r1.ip r1.facts q (List.mem_of_getElem? hq)
        have p1 := ob1 0 _ rfl
        have p2 := ob1 1 _ rfl
        simp only [mB2_den, mLen_den, O2.den, X.den, asB_b, asI_i, ile_iff, ieq_iff] at p1 p2
        unfold X.nat at hv2
        have hl3 : (len.den ρ1).asI = (len.den ρ).asI := by omega
        refine ⟨by simp only [mI2_den, O2.den, X.den, asI_i, hl3], by rw [hid]; exact k1, by rw [hid], cur, by rw [hid]; exact k2, by rw [totn hcv, k5], fun q j k hq hk => ?_⟩
        obtain ⟨_, _, cc1, b31, b41, b51⟩ := r1.blk b _ hb
        rw [hv1, b3] at b31
        cases b31
        obtain ⟨ev1, ev2⟩ := elemX_ok hu2 ρ1 σ1
        have hj := (List.getElem?_eq_some_iff.1 hk).1
        simp only [X.den, O2.den, asL_l, List.length_append, List.length_cons, List.length_nil] at hq
        have hcur : ∀ q', q' < (len.nat ρ + 1) * ety.size → cur[q']? = (cc.toList.take (len.nat ρ * ety.size) ++ news.map (SV.val ρ σ))[q']? := by
          intro q' hq'
          rw [← k6, List.getElem?_take, if_pos hq', Array.getElem?_toList]
        have hlr : (r0.den ρ1).asL.length = len.nat ρ := by unfold X.nat; omega
        have hqb : q * ks.length + j < (len.nat ρ + 1) * ety.size := by
          rw [c1] at hj ⊢
          have : q * ety.size + ety.size ≤ (len.nat ρ + 1) * ety.size := by rw [← Nat.succ_mul]; exact Nat.mul_le_mul_right _ (by omega)
          omega
        rw [hcur _ hqb]
        have hccl : (cc.toList.take (len.nat ρ * ety.size)).length = len.nat ρ * ety.size := by simp; omega
        by_cases hq2 : q < (r0.den ρ1).asL.length
        · have hq3 : q * ks.length + j < len.nat ρ * ety.size := by
            rw [c1] at hj ⊢
            have : q * ety.size + ety.size ≤ len.nat ρ * ety.size := by rw [← Nat.succ_mul]; exact Nat.mul_le_mul_right _ (by omega)
            omega
          rw [List.getElem?_append_left (by rw [hccl]; exact hq3), List.getElem?_take, if_pos hq3, Array.getElem?_toList, b51 q j k hq2 hk]
          congr 3
          simp only [X.den, O2.den, asL_l, List.getD_eq_getElem?_getD]
          rw [List.getElem?_append_left hq2]
        · have hq4 : q = len.nat ρ := by omega
          subst hq4
          rw [List.getElem?_append_right (by rw [hccl, c1]; exact Nat.le_add_right _ _), hccl, c1, Nat.add_sub_cancel_left, ← hnsame ρ1 σ1 he, ev2 j k hk]
          congr 3
          simp only [X.den, O2.den, asL_l, List.getD_eq_getElem?_getD]
          rw [List.getElem?_append_right (by omega), hlr, Nat.sub_self]
          rfl
  | _ => simp [appOne] at ha
theorem mAppend_ok {tt : Nat → Option Ty} (ht : TabOk P tt) {h : H} {d : Option Nat} {t ty : Nat} {x y : SV} {g : List X} {outs : List (SV × H)} (e : mAppend tt h d t x y = some (g, outs))
    {w0 : W0} {B : Nat} {ρ : Env} {σ : Pl} {w : World} (hr : HRep w0 B ρ σ h w) {vx vy : Value} (hx : ∀ ρ1 σ1, Ext h ρ ρ1 σ σ1 → vx = x.val ρ1 σ1) (hy : ∀ ρ1 σ1, Ext h ρ ρ1 σ σ1 → vy = y.val ρ1 σ1)
    (hg : ∀ ρ : Env, ρ.f = w0.i.f ∧ ρ.p = w0.i.p → (∀ f ∈ h.fs, f.ok ρ) → ∀ q ∈ g, (q.den ρ).asB = true) :
    ∃ q ∈ outs, ∃ ρ' σ' v w', (Builtin.append_ #[t, t] ty #[vx, vy]).run P w = .ok v w' ∧ Ext h ρ ρ' σ σ' ∧ h.le q.2 ∧ HRep w0 B ρ' σ' q.2 w' ∧ VRep ρ' σ' q.2 [q.1] [v] := by
  unfold mAppend at e
  obtain ⟨tty, hty, e⟩ := bind1 e
  have hu := (ht t tty hty).ul
  split at e
  case h_2 => cases e
  rename_i el hul
  rw [hul] at hu
  simp only [ULOk] at hu
  obtain ⟨ety, hety, e⟩ := bind1 e
  obtain ⟨z, hz, e⟩ := bind1 e
  obtain ⟨hc0, e⟩ := bndo e
  simp only [Bool.and_eq_true, beq_true, Nat.blt_eq] at hc0
  obtain ⟨⟨m, news⟩, hnw, e⟩ := bind1 e
  obtain ⟨⟨id, h1⟩, hnb, e⟩ := bind1 e
  obtain ⟨⟨c, h2⟩, hnv, e⟩ := bind1 e
  simp only at e hnv
  rw [Option.map_eq_some_iff] at e
  obtain ⟨r, ha, e⟩ := e
  simp only [Prod.mk.injEq] at e
  obtain ⟨rfl, rfl⟩ := e
  obtain ⟨i, hi, hsize, hbytes, hzero⟩ := (ht el ety hety).info
  have hzs : (z.val ρ σ).cells.size = ety.size := by rw [SV.cells_val]; simp [hc0.1]
  obtain ⟨ya, yc, hyv, hm, hnl, hncell, hnone⟩ := appNews_ok hnw hr.now
  have hvy : vy = .slice (some ya) m yc := (hy ρ σ (Ext.refl _ _ _)).trans hyv
  have hnsame : ∀ ρ1 σ1, Ext h ρ ρ1 σ σ1 → news.map (SV.val ρ1 σ1) = news.map (SV.val ρ σ) := by
    intro ρ1 σ1 he
    obtain ⟨ya', yc', hyv', _, hnl1, hncell', _⟩ := appNews_ok hnw (hr _ _ he)
    have e1 := hy ρ1 σ1 he
    rw [hvy, hyv'] at e1
    simp only [Value.slice.injEq, Option.some.injEq] at e1
    obtain ⟨rfl, _, _⟩ := e1
    apply List.ext_getElem?
    intro j
    cases ha : (news.map (SV.val ρ1 σ1))[j]? with
    | some u =>
      have h5 := hncell' j u ha
      have hj : j < (news.map (SV.val ρ σ)).length := by
        have := (List.getElem?_eq_some_iff.1 ha).1
        simpa using this
      have h6 := hncell j _ (List.getElem?_eq_getElem hj)
      rw [h5] at h6
      rw [List.getElem?_eq_getElem hj, ← Option.some.inj h6]
    | none =>
      rw [List.getElem?_eq_none_iff] at ha
      rw [List.getElem?_eq_none (by simpa using ha)]
  obtain ⟨g', cap', w', row, cells, hrun, G, hlen0, hrow, hhp, hblk⟩ := appOne_ok (t := t) (ty := ty) ha hu hi hsize hbytes (hzero z hz ρ σ) hzs hc0.2 hr hx (ya := ya) (yc := yc) hm hnl hncell hnone hnsame hg
  obtain ⟨ρ', σ', f1, f2, f3, f4⟩ := app_fin hr (newB_ok hnb) (newV_ok hnv) row hrow hhp G.ge G.by' G.wh r.blk [.x (.o .le r.len (.v c)), .x (.o .le (.v c) (.n maxL))] (by
    intro ρ1 σ1 r1 he hcv hid
    obtain ⟨q1, q2⟩ := hblk ρ1 σ1 id r1 he hcv hid
    refine ⟨q2, fun f hf => ?_⟩
    have g1 := G.le
    have g2 := G.max
    unfold X.nat at g1
    simp only [List.mem_cons, List.not_mem_nil, or_false] at hf
    rcases hf with rfl | rfl
    · simp only [Fact.ok, X.den, O2.den, hcv, asB_b, asI_i, ile_iff]; omega
    · simp only [Fact.ok, X.den, O2.den, hcv, asB_b, asI_i, ile_iff, maxL]; simp only [maxLen] at g2; omega)
  refine ⟨_, List.mem_cons_self, ρ', σ', _, w', by rw [hvy]; exact hrun, f1, f2, f3, fun ρ1 σ1 he => ?_⟩
  obtain ⟨q1, q2, q3⟩ := f4 ρ1 σ1 he
  have q4 := (hblk ρ1 σ1 id (hr _ _ q3) q3 q1 q2).1
  simp only [List.map_cons, List.map_nil, SV.val, X.nat, X.den, q1, adr, q2, asI_i, q4, Int.toNat_natCast]
  simp
end Go.SE
end
