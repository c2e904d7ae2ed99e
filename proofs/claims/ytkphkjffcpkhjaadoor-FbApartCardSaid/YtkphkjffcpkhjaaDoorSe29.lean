import Derived.Test.YtkphkjffcpkhjaaDoorSe26
/-! The symbolic executor: a copy by 'append' onto the nil slice. -/
noncomputable section
set_option linter.unusedSimpArgs false
set_option linter.unusedVariables false
namespace Go.SE
variable {P : Program}

def rowsKs : Blk → Option (List CK)
  | .rows _ ks _ _ _ => some ks
  | _ => none
/-- all of a row, behind the nil slice: nothing of it, or (where it is known to hold something) a row of one's own. -/
def appCopy (tt : Nat → Option Ty) (h : H) (d : Option Nat) (e : Nat) (b j : Nat) (r : X) (w : Nat) (len : X) : Option (List X × List (SV × H)) :=
  (tt e).bind fun ety => ety.zero.bind fun z =>
    bif Nat.beq z.cells.length ety.size && (Nat.blt 0 ety.size && (Nat.beq j 0 && (xeq r (.n 0) && (Nat.beq w ety.size && kn h.fs (.x (.o .lt (.n 0) len)))))) then
      (fget h.hp b).bind fun k => (rowsKs k).bind fun ks => (asRows ks k).bind fun xs =>
        bif Nat.beq ks.length ety.size then (newB h d).bind fun p1 => (newV p1.2 d).map fun p2 =>
          ([mB2 .eq len (mLen xs), mB2 .le (mI2 .mul len (.n ety.bytes)) (.n roomB), mB2 .le len (.n maxL)],
            [(.slice p1.1 0 (.n 0) ety.size len (.v p2.1),
              { p2.2 with hp := fset p1.1 (.rows true ks xs e (mI2 .mul (.v p2.1) (.n ety.size))) h.hp, fs := [.x (.o .le len (.v p2.1)), .x (.o .le (.v p2.1) (.n maxL))] ++ h.fs })])
        else none
    else none
def appNil (tt : Nat → Option Ty) (h : H) (d : Option Nat) (t : Nat) (y : SV) : Option (List X × List (SV × H)) :=
  (tt t).bind fun ty => match ty.ul with
  | .slice e => (tt e).bind fun _ => match y with
    | .nils => some ([], [(.nils, h)])
    | .slice b j r w len _ => match litX len with
      | some 0 => some ([], [(.nils, h)])
      | _ => appCopy tt h d e b j r w len
    | _ => none
  | _ => none
def mAppA (tt : Nat → Option Ty) (h : H) (d : Option Nat) (t : Nat) (x y : SV) : Option (List X × List (SV × H)) :=
  match mAppend tt h d t x y with
  | some q => some q
  | none => match x with
    | .nils => appNil tt h d t y
    | _ => none

theorem CK.one_val (k : CK) (u : U) : (k.val u).oneCell' = true := by cases k <;> rfl
theorem run_append_none (w : World) (t ty e : TypeId) (i : TypeInfo) (ht : P.underlying t = some (.slice e)) (hi : P.info? e = some i) (a : Option Addr) (c : Nat) :
    (Builtin.append_ #[t, t] ty #[.slice none 0 0, .slice a 0 c]).run P w = .ok (.slice none 0 0) w := by
  cases a <;> simp [Builtin.append_, run_underlying ht, sizeOf, typeInfo, hi, Builtin.lenOf, storeCells, Builtin.firstCells, loadCells, loadCellsFrom]

theorem appCopy_ok {tt : Nat → Option Ty} (ht : TabOk P tt) {h : H} {d : Option Nat} {t ty e b j w' : Nat} {r0 len cap : X} {g : List X} {outs : List (SV × H)} (ec : appCopy tt h d e b j r0 w' len = some (g, outs))
    (hu : P.underlying t = some (.slice e))
    {w0 : W0} {B : Nat} {ρ : Env} {σ : Pl} {w : World} (hr : HRep w0 B ρ σ h w) {vy : Value} (hy : ∀ ρ1 σ1, Ext h ρ ρ1 σ σ1 → vy = (SV.slice b j r0 w' len cap).val ρ1 σ1)
    (hg : ∀ ρ : Env, ρ.f = w0.i.f ∧ ρ.p = w0.i.p → (∀ f ∈ h.fs, f.ok ρ) → ∀ q ∈ g, (q.den ρ).asB = true) :
    ∃ q ∈ outs, ∃ ρ' σ' v w', (Builtin.append_ #[t, t] ty #[.slice none 0 0, vy]).run P w = .ok v w' ∧ Ext h ρ ρ' σ σ' ∧ h.le q.2 ∧ HRep w0 B ρ' σ' q.2 w' ∧ VRep ρ' σ' q.2 [q.1] [v] := by
  unfold appCopy at ec
  obtain ⟨ety, hety, ec⟩ := bind1 ec
  obtain ⟨z, hz, ec⟩ := bind1 ec
  obtain ⟨hc0, ec1⟩ := bndo ec
  clear ec
  simp only [Bool.and_eq_true, beq_true, Nat.blt_eq] at hc0
  obtain ⟨hzl, hsz, hj0, hr0, hw0, hkn⟩ := hc0
  have hr0 := xeq_eq hr0
  subst hj0 hr0 hw0
  obtain ⟨k, hb, ec2⟩ := bind1 ec1
  obtain ⟨ks, hks, ec3⟩ := bind1 ec2
  obtain ⟨xs, hxs, ec4⟩ := bind1 ec3
  obtain ⟨hkl, ec5⟩ := bndo ec4
  simp only [beq_true] at hkl
  obtain ⟨⟨id, h1⟩, hnb, ec6⟩ := bind1 ec5
  clear ec1 ec2 ec3 ec4 ec5
  rw [Option.map_eq_some_iff] at ec6
  obtain ⟨⟨c, h2⟩, hnv, ec⟩ := ec6
  simp only [Prod.mk.injEq] at ec hnv
  obtain ⟨rfl, rfl⟩ := ec
  obtain ⟨i, hi, hsize, hbytes, hzero⟩ := (ht e ety hety).info
  have hzs : (z.val ρ σ).cells.size = ety.size := by rw [SV.cells_val]; simp [hzl]
  have hnow := hr.now
  have ob : ∀ ρ1 : Env, ρ1.f = w0.i.f ∧ ρ1.p = w0.i.p → (∀ f ∈ h.fs, f.ok ρ1) → 0 < (len.den ρ1).asI ∧ (len.den ρ1).asI = (xs.den ρ1).asL.length ∧ (len.den ρ1).asI * ety.bytes ≤ 140737488355328 ∧ (len.den ρ1).asI ≤ 9223372036854775807 := by
    intro ρ1 hip hfs
    have o0 := kn_ok hkn ρ1 hfs
    have o1 := hg ρ1 hip hfs _ List.mem_cons_self
    have o2 := hg ρ1 hip hfs _ (List.mem_cons_of_mem _ List.mem_cons_self)
    have o3 := hg ρ1 hip hfs _ (List.mem_cons_of_mem _ (List.mem_cons_of_mem _ List.mem_cons_self))
    simp only [Fact.ok, mB2_den, mI2_den, mLen_den, O2.den, X.den, asB_b, asI_i, ile_iff, ilt_iff, ieq_iff, maxL, roomB] at o0 o1 o2 o3
    exact ⟨o0, o1, o2, o3⟩
  obtain ⟨p0, p1, p2, p3⟩ := ob ρ hnow.ip hnow.facts
  let L := (xs.den ρ).asL
  let m := len.nat ρ
  have hm : m = L.length := by show (len.den ρ).asI.toNat = (xs.den ρ).asL.length; omega
  have hm0 : 0 < m := by show 0 < (len.den ρ).asI.toNat; omega
  obtain ⟨hblt, hcell⟩ := asRows_ok hxs (hnow.blk b _ hb) hnow.size
  let news : List Value := (List.range (m * ety.size)).map fun q => match ks[q % ety.size]? with | some k => k.val (rowU ks.length (L.getD (q / ety.size) default) (q % ety.size)) | none => undef
  have hvy : vy = .slice (some (adr σ b 0)) m (cap.nat ρ) := by rw [hy ρ σ (Ext.refl _ _ _)]; simp [SV.val, X.nat, X.den, m]
  have hnl : news.length = m * ety.size := by simp [news]
  have hnews : ∀ q, q < m * ety.size → ∃ k, ks[q % ety.size]? = some k ∧ q / ety.size < L.length ∧ q = q / ety.size * ks.length + q % ety.size ∧ news[q]? = some (k.val (rowU ks.length (L.getD (q / ety.size) default) (q % ety.size))) := by
    intro q hq
    have h5 : q % ety.size < ks.length := by rw [hkl]; exact Nat.mod_lt _ hsz
    refine ⟨ks[q % ety.size], List.getElem?_eq_getElem h5, by rw [← hm]; exact Nat.div_lt_of_lt_mul (by rw [Nat.mul_comm]; exact hq), by rw [hkl, Nat.mul_comm]; exact (Nat.div_add_mod _ _).symm, ?_⟩
    simp only [news, List.getElem?_map, List.getElem?_range hq, Option.map_some, List.getElem?_eq_getElem h5]
  have hnc : ∀ q u, news[q]? = some u → w.cell? ((adr σ b 0).add q) = some u := by
    intro q u hq
    have hlt : q < m * ety.size := by rw [← hnl]; exact (List.getElem?_eq_some_iff.1 hq).1
    obtain ⟨k, hk, h5, h6, h7⟩ := hnews q hlt
    rw [adr_in, Nat.zero_add, h6, hcell _ _ k h5 hk, ← hq, h7]
  have hn1 : ∀ u ∈ news, u.oneCell' = true := by
    intro u hu
    obtain ⟨q, hq⟩ := List.getElem?_of_mem hu
    have hlt : q < m * ety.size := by rw [← hnl]; exact (List.getElem?_eq_some_iff.1 hq).1
    obtain ⟨k, hk, h5, h6, h7⟩ := hnews q hlt
    rw [h7] at hq
    cases hq
    exact CK.one_val _ _
  have hmb : m * ety.bytes ≤ 140737488355328 := by
    have : ((((len.den ρ).asI.toNat) * ety.bytes : Nat) : Int) ≤ 140737488355328 := by
      rw [Int.natCast_mul, Int.toNat_of_nonneg (by omega)]; exact p2
    show (len.den ρ).asI.toNat * ety.bytes ≤ _
    omega
  obtain ⟨g', cap', cur, w2, hrun, k1, k2, k3, k4, k5, k6, k7, k8⟩ := append_full (P := P) w B t ty e i (z.val ρ σ) ety.size ety.bytes hu hi (hzero z hz ρ σ) hsize hbytes hzs hsz _ 0 [] (World.ownsRow_nil w B e ety.size) (adr σ b 0) m (cap.nat ρ) news hm0 hnl hnc hn1
    (by show 0 + (len.den ρ).asI.toNat ≤ _; simp only [maxLen]; omega) (by rw [Nat.zero_add]; exact hmb) hnow.size
  simp only [Nat.zero_add, List.nil_append] at hrun k3 k6
  obtain ⟨ρ', σ', f1, f2, f3, f4⟩ := app_fin hr (newB_ok hnb) (newV_ok hnv) none (by simp) (hp0 := h.hp) (fun ρ1 σ1 _ i k hk => ⟨hk, by simp⟩) k1 (by simpa [Value.ownBlock] using k7) (by simpa [Value.ownBlock] using k8)
    (.rows true ks xs e (mI2 .mul (.v c) (.n ety.size))) [.x (.o .le len (.v c)), .x (.o .le (.v c) (.n maxL))] (by
    intro ρ1 σ1 r1 he hcv hid
    have hv1 := hy ρ1 σ1 he
    rw [hvy] at hv1
    simp only [SV.val, adr, Value.slice.injEq, Option.some.injEq, Addr.mk.injEq, X.nat, X.den, asI_i, Int.toNat_zero, Nat.zero_mul, Nat.add_zero, Nat.zero_add, and_true] at hv1
    obtain ⟨⟨ea, eo⟩, el, _⟩ := hv1
    obtain ⟨q0, q1, q2, q3⟩ := ob ρ1 r1.ip r1.facts
    have el' : (len.den ρ).asI.toNat = (len.den ρ1).asI.toNat := el
    obtain ⟨_, hcell1⟩ := asRows_ok hxs (r1.blk b _ hb) r1.size
    have hsame : ∀ q, adr σ1 b q = adr σ b q := by intro q; simp [adr, ← ea, ← eo]
    refine ⟨⟨by rw [hid]; exact k1, by rw [hid], cur, by rw [hid]; exact k2, by rw [totn hcv, k5], fun r j k hr' hk => ?_⟩, fun f hf => ?_⟩
    · have hj := (List.getElem?_eq_some_iff.1 hk).1
      have hrm : r < m := by show r < (len.den ρ).asI.toNat; omega
      have hlt : r * ks.length + j < m * ety.size := by
        rw [hkl] at hj ⊢
        have : r * ety.size + ety.size ≤ m * ety.size := by rw [← Nat.succ_mul]; exact Nat.mul_le_mul_right _ (by omega)
        omega
      obtain ⟨k', _, _, _, h7⟩ := hnews _ hlt
      have h8 := hnc _ _ h7
      rw [adr_in, Nat.zero_add, ← hsame, hcell1 r j k hr' hk] at h8
      have h9 : (cur.toList.take (m * ety.size))[r * ks.length + j]? = news[r * ks.length + j]? := by rw [k6]
      rw [List.getElem?_take, if_pos hlt, Array.getElem?_toList, h7] at h9
      rw [h9, ← h8]
    · simp only [List.mem_cons, List.not_mem_nil, or_false] at hf
      have h10 : (len.den ρ1).asI = (len.den ρ).asI := by omega
      have h11 : m = (len.den ρ).asI.toNat := rfl
      rcases hf with rfl | rfl
      · simp only [Fact.ok, X.den, O2.den, hcv, asB_b, asI_i, ile_iff]; omega
      · simp only [Fact.ok, X.den, O2.den, hcv, asB_b, asI_i, ile_iff, maxL]; simp only [maxLen] at k4; omega)
  refine ⟨_, List.mem_cons_self, ρ', σ', _, w2, by rw [hvy]; exact hrun, f1, f2, f3, fun ρ1 σ1 he => ?_⟩
  obtain ⟨q1, q2, q3⟩ := f4 ρ1 σ1 he
  have hv1 := hy ρ1 σ1 q3
  rw [hvy] at hv1
  simp only [SV.val, adr, Value.slice.injEq, Option.some.injEq, Addr.mk.injEq, X.nat] at hv1
  have el : m = (len.den ρ1).asI.toNat := hv1.2.1
  simp only [List.map_cons, List.map_nil, SV.val, X.nat, X.den, q1, adr, q2, asI_i, ← el, Int.toNat_natCast]
  simp
theorem appNil_ok {tt : Nat → Option Ty} (ht : TabOk P tt) {h : H} {d : Option Nat} {t ty : Nat} {y : SV} {g : List X} {outs : List (SV × H)} (e : appNil tt h d t y = some (g, outs))
    {w0 : W0} {B : Nat} {ρ : Env} {σ : Pl} {w : World} (hr : HRep w0 B ρ σ h w) {vy : Value} (hy : ∀ ρ1 σ1, Ext h ρ ρ1 σ σ1 → vy = y.val ρ1 σ1)
    (hg : ∀ ρ : Env, ρ.f = w0.i.f ∧ ρ.p = w0.i.p → (∀ f ∈ h.fs, f.ok ρ) → ∀ q ∈ g, (q.den ρ).asB = true) :
    ∃ q ∈ outs, ∃ ρ' σ' v w', (Builtin.append_ #[t, t] ty #[.slice none 0 0, vy]).run P w = .ok v w' ∧ Ext h ρ ρ' σ σ' ∧ h.le q.2 ∧ HRep w0 B ρ' σ' q.2 w' ∧ VRep ρ' σ' q.2 [q.1] [v] := by
  unfold appNil at e
  obtain ⟨tty, hty, e⟩ := bind1 e
  have hu := (ht t tty hty).ul
  split at e
  case h_2 => cases e
  rename_i el hul
  rw [hul] at hu
  simp only [ULOk] at hu
  obtain ⟨ety, hety, e⟩ := bind1 e
  obtain ⟨i, hi, hsize, hbytes, hzero⟩ := (ht el ety hety).info
  split at e
  · cases e
    refine ⟨_, List.mem_cons_self, ρ, σ, _, w, ?_, Ext.refl _ _ _, ⟨fun _ h => h, fun _ h => h⟩, hr, fun _ _ _ => rfl⟩
    rw [hy ρ σ (Ext.refl _ _ _)]
    exact run_append_none w t ty el i hu hi none 0
  · rename_i bb jj rr ww len cap
    split at e
    · rename_i hl
      cases e
      refine ⟨_, List.mem_cons_self, ρ, σ, _, w, ?_, Ext.refl _ _ _, ⟨fun _ h => h, fun _ h => h⟩, hr, fun _ _ _ => rfl⟩
      rw [hy ρ σ (Ext.refl _ _ _)]
      have hn := litX_nat hl ρ
      simp only [SV.val, hn]
      exact run_append_none w t ty el i hu hi _ _
    · exact appCopy_ok ht e hu hr hy hg
  · cases e
theorem mAppA_ok {tt : Nat → Option Ty} (ht : TabOk P tt) {h : H} {d : Option Nat} {t ty : Nat} {x y : SV} {g : List X} {outs : List (SV × H)} (e : mAppA tt h d t x y = some (g, outs))
    {w0 : W0} {B : Nat} {ρ : Env} {σ : Pl} {w : World} (hr : HRep w0 B ρ σ h w) {vx vy : Value} (hx : ∀ ρ1 σ1, Ext h ρ ρ1 σ σ1 → vx = x.val ρ1 σ1) (hy : ∀ ρ1 σ1, Ext h ρ ρ1 σ σ1 → vy = y.val ρ1 σ1)
    (hg : ∀ ρ : Env, ρ.f = w0.i.f ∧ ρ.p = w0.i.p → (∀ f ∈ h.fs, f.ok ρ) → ∀ q ∈ g, (q.den ρ).asB = true) :
    ∃ q ∈ outs, ∃ ρ' σ' v w', (Builtin.append_ #[t, t] ty #[vx, vy]).run P w = .ok v w' ∧ Ext h ρ ρ' σ σ' ∧ h.le q.2 ∧ HRep w0 B ρ' σ' q.2 w' ∧ VRep ρ' σ' q.2 [q.1] [v] := by
  unfold mAppA at e
  split at e
  · rename_i q hq
    cases e
    exact mAppend_ok ht hq hr hx hy hg
  · split at e
    · rw [hx ρ σ (Ext.refl _ _ _)]
      exact appNil_ok ht e hr hy hg
    · cases e
end Go.SE
end
