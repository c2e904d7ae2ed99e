import Derived.Test.YtkphkjffcpkhjaaDoorSeR6M2
/-! Obligations with fewer premises. -/
noncomputable section
set_option linter.unusedSimpArgs false
set_option linter.unusedVariables false
namespace Go.SE
/-- premises that say no more than how large a new slice may be. -/
def dull : Fact → Bool
  | .x (.o .le (.n _) (.v _)) => true
  | .x (.o .le (.v _) (.n 9223372036854775807)) => true
  | .x (.u (.f 999) _) => true
  | _ => false
def slim (ob : List Obl) : List Obl := ob.map fun o => ⟨filB (fun f => !dull f) o.fs, o.goal⟩
theorem slim_ok {w0 : W0} {ob : List Obl} (h : ∀ o ∈ slim ob, o.ok w0) : ∀ o ∈ ob, o.ok w0 := by
  intro o ho ρ h1 h2 h3
  refine h _ (List.mem_map_of_mem ho) ρ h1 h2 fun f hf => h3 f ?_
  simp only [filB_eq, List.mem_filter] at hf
  exact hf.1
variable {P : Program} {I : Interp}
def runS (C : Ctx) (f i : Nat) (c : Ctr) (ts : List (SV × H)) : Option (List Obl) := (runK C f i c ts).map slim
theorem CtrOk.run3 {C : Ctx} (hC : CtxOk P I C) {f i : Nat} (hft : (C.ft i).isSome = true) {c : Ctr} {ob : List Obl} {ts : List (SV × H)} (e : runS C f i c ts = some ob)
    (hts : ∀ t ∈ ts, t ∈ c.outs) (hob : ∀ w, ∀ o ∈ ob, o.ok ⟨w, I⟩) : CtrOk P I i c := by
  unfold runS at e
  rw [Option.map_eq_some_iff] at e
  obtain ⟨ob', h1, rfl⟩ := e
  exact CtrOk.run2 hC hft h1 hts fun w => slim_ok (hob w)
/-- all outcomes brought to one template. -/
def runOne (C : Ctx) (f i : Nat) (c : Ctr) (t : SV × H) : Option (List Obl) :=
  (execCall C f i c.args c.h).bind fun q => (mergeK c.h q.2 (q.2.map fun _ => t)).map fun ob => slim (q.1 ++ ob)
theorem CtrOk.one {C : Ctx} (hC : CtxOk P I C) {f i : Nat} (hft : (C.ft i).isSome = true) {c : Ctr} {ob : List Obl} {t : SV × H} (e : runOne C f i c t = some ob)
    (hts : t ∈ c.outs) (hob : ∀ w, ∀ o ∈ ob, o.ok ⟨w, I⟩) : CtrOk P I i c := by
  unfold runOne at e
  obtain ⟨q, h1, e⟩ := bind1 e
  rw [Option.map_eq_some_iff] at e
  obtain ⟨ob', h2, rfl⟩ := e
  exact CtrOk.run hC hft (ob := q.1) (rs := q.2) h1 h2 (fun t ht => by simp only [List.mem_map] at ht; obtain ⟨_, _, rfl⟩ := ht; exact hts) fun w => slim_ok (hob w)
/-- a contract out of another: at narrower arguments, the outcome said in other words. -/
def reOne (c c' : Ctr) (t : SV × H) : Option (List Obl) :=
  (useK c c'.args c'.h).bind fun q => (mergeK c'.h q.2 (q.2.map fun _ => t)).map fun ob => slim (q.1 ++ ob)
theorem CtrOk.re {i : Nat} {c c' : Ctr} (hc : CtrOk P I i c) {t : SV × H} {ob : List Obl} (e : reOne c c' t = some ob) (ht : t ∈ c'.outs) (hob : ∀ w, ∀ o ∈ ob, o.ok ⟨w, I⟩) : CtrOk P I i c' := by
  unfold reOne at e
  obtain ⟨q, h1, e⟩ := bind1 e
  rw [Option.map_eq_some_iff] at e
  obtain ⟨ob', h2, rfl⟩ := e
  have hu : CallOk P I i c'.args c'.h q.1 q.2 := use_ok hc h1
  exact .of (merge_ok hu h2 (fun t ht => by simp only [List.mem_map] at ht; obtain ⟨_, _, rfl⟩ := ht; assumption)) fun w => slim_ok (hob w)
/-- contracts whose runs leave nothing to be shown. -/
def allRun (C : Ctx) (f i : Nat) (l : List Ctr) : Bool := allB (fun c => match runOne C f i c (c.outs.headD (.nilp, c.h)) with | some [] => !c.outs.isEmpty | _ => false) l
theorem allRun_ok {C : Ctx} (hC : CtxOk P I C) {f i : Nat} (hft : (C.ft i).isSome = true) {l : List Ctr} (e : allRun C f i l = true) : ∀ c ∈ l, CtrOk P I i c := by
  intro c hc
  unfold allRun at e
  rw [allB_iff] at e
  have := e c hc
  split at this
  · rename_i h
    refine CtrOk.one hC hft h ?_ (by simp)
    cases ho : c.outs with
    | nil => simp [ho] at this
    | cons a r => exact List.mem_cons_self
  · cases this
end Go.SE
end
/-! Plain lemmas for what is to be shown. -/
noncomputable section
set_option linter.unusedSimpArgs false
set_option linter.unusedVariables false
namespace Go.SE
theorem den_b2i (ρ : Env) (a : U) : O1.den ρ .b2i a = .i (if a.asB then 1 else 0) := rfl
theorem den_not (ρ : Env) (a : U) : O1.den ρ .not a = .b (!a.asB) := rfl
theorem den_wrap (ρ : Env) (k : IntKind) (a : U) : O1.den ρ (.wrap k) a = .i (k.wrap a.asI) := rfl
theorem den_fld (ρ : Env) (j : Nat) (a : U) : O1.den ρ (.fld j) a = a.asL.getD j default := rfl
theorem den_f1 (ρ : Env) (k : Nat) (a : U) : O1.den ρ (.f k) a = ρ.f k [a] := rfl
theorem den_len (ρ : Env) (a : U) : O1.den ρ .len a = .i a.asL.length := rfl
theorem ile_d (a b : Int) : ile a b = decide (a ≤ b) := rfl
theorem ieq_d (a b : Int) : ieq a b = decide (a = b) := rfl
theorem ilt_d (a b : Int) : ilt a b = decide (a < b) := rfl
theorem ieq_f (a b : Int) : ieq a b = false ↔ ¬ a = b := by simp [ieq]
theorem ilt_f (a b : Int) : ilt a b = false ↔ ¬ a < b := by simp [ilt]
theorem ile_f (a b : Int) : ile a b = false ↔ ¬ a ≤ b := by simp [ile]
theorem min_bif (a b : Int) : (bif ilt b a then b else a) = min a b := by
  simp only [ilt]; by_cases h : b < a <;> simp [h] <;> omega
theorem max_bif (a b : Int) : (bif ilt a b then b else a) = max a b := by
  simp only [ilt]; by_cases h : a < b <;> simp [h] <;> omega
theorem w32_def (n : Int) : IntKind.i32.wrap n = w32 n := rfl
theorem w16_def (n : Int) : IntKind.i16.wrap n = w16 n := rfl
theorem w64_def (n : Int) : IntKind.i64.wrap n = w64 n := rfl
theorem w32_eq (n : Int) : w32 n = if n % 4294967296 < 2147483648 then n % 4294967296 else n % 4294967296 - 4294967296 := by
  simp only [w32, IntKind.wrap, IntKind.bits, IntKind.signed]; simp; split <;> split <;> omega
theorem w16_eq (n : Int) : w16 n = if n % 65536 < 32768 then n % 65536 else n % 65536 - 65536 := by
  simp only [w16, IntKind.wrap, IntKind.bits, IntKind.signed]; simp; split <;> split <;> omega
theorem w64_eq (n : Int) : w64 n = if n % 18446744073709551616 < 9223372036854775808 then n % 18446744073709551616 else n % 18446744073709551616 - 18446744073709551616 := by
  simp only [w64, IntKind.wrap, IntKind.bits, IntKind.signed]; simp; split <;> split <;> omega
theorem w32_rng (n : Int) : -2147483648 ≤ w32 n ∧ w32 n ≤ 2147483647 := by rw [w32_eq]; split <;> omega
theorem w16_rng (n : Int) : -32768 ≤ w16 n ∧ w16 n ≤ 32767 := by rw [w16_eq]; split <;> omega
theorem w32_id {n : Int} (h1 : -2147483648 ≤ n) (h2 : n ≤ 2147483647) : w32 n = n := by rw [w32_eq]; split <;> omega
theorem w16_id {n : Int} (h1 : -32768 ≤ n) (h2 : n ≤ 32767) : w16 n = n := by rw [w16_eq]; split <;> omega
theorem w64_id {n : Int} (h1 : -9223372036854775808 ≤ n) (h2 : n ≤ 9223372036854775807) : w64 n = n := by rw [w64_eq]; split <;> omega
theorem w32_w64 (n : Int) : w32 (w64 n) = w32 n := by rw [w32_eq, w32_eq, w64_eq]; split <;> split <;> split <;> omega
theorem w32_w32 (n : Int) : w32 (w32 n) = w32 n := w32_id (w32_rng n).1 (w32_rng n).2
theorem w16_w16 (n : Int) : w16 (w16 n) = w16 n := w16_id (w16_rng n).1 (w16_rng n).2
theorem shr_shl_32 (x : Int) : shrZ .i64 (shlZ .i64 x 32) 32 = w32 x := by
  simp only [shrZ, shlZ, w64_def]
  rw [Int.fdiv_eq_ediv_of_nonneg _ (by decide)]
  have h : (2 : Int) ^ (min (32 : Int).toNat IntKind.i64.bits) = 4294967296 := by decide
  rw [h, w64_eq, w32_eq]
  split <;> split <;> omega
theorem shr_shl_48 (x : Int) : shrZ .i64 (shlZ .i64 x 48) 48 = w16 x := by
  simp only [shrZ, shlZ, w64_def]
  rw [Int.fdiv_eq_ediv_of_nonneg _ (by decide)]
  have h : (2 : Int) ^ (min (48 : Int).toNat IntKind.i64.bits) = 281474976710656 := by decide
  rw [h, w64_eq, w16_eq]
  split <;> split <;> omega
theorem den_shl (ρ : Env) (k : IntKind) (a b : U) : O2.den ρ (.shl k) a b = .i (shlZ k a.asI b.asI) := rfl
theorem den_shr (ρ : Env) (k : IntKind) (a b : U) : O2.den ρ (.shr k) a b = .i (shrZ k a.asI b.asI) := rfl
theorem getD_asI (l : List U) (i : Nat) : (l.map U.asI).getD i 0 = (l.getD i default).asI := by
  simp only [List.getD_eq_getElem?_getD, List.getElem?_map]
  cases l[i]? <;> rfl
theorem getD_past (l : List U) {i : Nat} (h : ¬ i < l.length) : l.getD i default = default := by
  rw [List.getD_eq_getElem?_getD, List.getElem?_eq_none (by omega)]; rfl
end Go.SE
end
/-! Small functions' contracts: the runs leave nothing to be shown. -/
noncomputable section
set_option linter.unusedSimpArgs false
set_option linter.unusedVariables false
namespace Go.Proofs.YtkphkjffcpkhjaaDoor
open Go Go.SE
set_option maxRecDepth 1000000

def cA : Ctx := ctxOf [] fun _ _ _ => none
theorem kind_run : allRun cA 100 46 kindKs = true := by kernel_rfl
theorem kind_ok (I : Interp) : ∀ c ∈ kindKs, CtrOk Tryd.prog I 46 c := allRun_ok (ctx_ok (by intro q hq; cases hq)) (by kernel_rfl) kind_run
def wrap1_ob : List Obl := [⟨[(.x (.u .not (.o .eq (.v 0) (.n 0))))], (.q (.u .b2i (.u .not (.o .eq (.v 0) (.n 0)))) (.n 1))⟩,
  ⟨[(.x (.o .eq (.v 0) (.n 0)))], (.q (.u .b2i (.u .not (.o .eq (.v 0) (.n 0)))) (.n 0))⟩]
theorem wrap1_run : runOne cA 100 28 (wrapK 1) ((wrapK 1).outs.headD (.nilp, (wrapK 1).h)) = some wrap1_ob := by kernel_rfl
def wrap3_ob : List Obl := [⟨[], (.q (.u (.wrap .i16) (.v 0)) (.o (.shr .i64) (.o (.shl .i64) (.v 0) (.n 48)) (.n 48)))⟩]
theorem wrap3_run : runOne cA 100 28 (wrapK 3) ((wrapK 3).outs.headD (.nilp, (wrapK 3).h)) = some wrap3_ob := by kernel_rfl
def wrap4_ob : List Obl := [⟨[], (.q (.u (.wrap .i32) (.v 0)) (.o (.shr .i64) (.o (.shl .i64) (.v 0) (.n 32)) (.n 32)))⟩]
theorem wrap4_run : runOne cA 100 28 (wrapK 4) ((wrapK 4).outs.headD (.nilp, (wrapK 4).h)) = some wrap4_ob := by kernel_rfl
def wrap11_ob : List Obl := [⟨[], (.q (.u (.wrap .i32) (.v 0)) (.o (.shr .i64) (.o (.shl .i64) (.v 0) (.n 32)) (.n 32)))⟩]
theorem wrap11_run : runOne cA 100 28 (wrapK 11) ((wrapK 11).outs.headD (.nilp, (wrapK 11).h)) = some wrap11_ob := by kernel_rfl
def tru_ob : List Obl := [⟨[(.x (.v 0))], (.q (.u .b2i (.v 0)) (.n 1))⟩,
  ⟨[(.x (.u .not (.v 0)))], (.q (.u .b2i (.v 0)) (.n 0))⟩]
theorem tru_run : runOne cA 100 134 truthK (truthK.outs.headD (.nilp, truthK.h)) = some tru_ob := by kernel_rfl

theorem bool_ob {w : World} {I : Interp} {x : X} (ob : List Obl) (h : ob = [⟨[(.x (.u .not (.o .eq x (.n 0))))], (.q (.u .b2i (.u .not (.o .eq x (.n 0)))) (.n 1))⟩, ⟨[(.x (.o .eq x (.n 0)))], (.q (.u .b2i (.u .not (.o .eq x (.n 0)))) (.n 0))⟩]) : ∀ o ∈ ob, o.ok ⟨w, I⟩ := by
  subst h
  simp only [List.forall_mem_cons, List.not_mem_nil, false_implies, implies_true, and_true]
  refine ⟨fun ρ _ _ hfs => ?_, fun ρ _ _ hfs => ?_⟩
  all_goals
    simp only [List.forall_mem_cons, List.not_mem_nil, false_implies, implies_true, and_true, Fact.ok, X.den, den_not, asB_b] at hfs
    simp only [Fact.ok, X.den, den_b2i, den_not, asB_b, hfs]
    first | rfl | simp
theorem wrap_ok (I : Interp) : ∀ c ∈ wrapKs, CtrOk Tryd.prog I 28 c := by
  have h0 : CtxOk Tryd.prog I cA := ctx_ok (by intro q hq; cases hq)
  have sh : ∀ (k : IntKind) (n : Int) (w : World), (∀ x, shrZ .i64 (shlZ .i64 x n) n = k.wrap x) → ∀ o ∈ [(⟨[], (.q (.u (.wrap k) (.v 0)) (.o (.shr .i64) (.o (.shl .i64) (.v 0) (.n n)) (.n n)))⟩ : Obl)], o.ok ⟨w, I⟩ := by
    intro k n w h o ho
    simp only [List.mem_singleton] at ho
    subst ho
    intro ρ _ _ _
    simp only [Fact.ok, X.den, den_wrap, den_shl, den_shr, asI_i, h]
  simp only [wrapKs, List.forall_mem_cons, List.not_mem_nil, false_implies, implies_true, and_true]
  exact ⟨.one h0 (by kernel_rfl) wrap1_run List.mem_cons_self fun w => bool_ob _ rfl, .one h0 (by kernel_rfl) wrap3_run List.mem_cons_self fun w => sh .i16 48 w shr_shl_48,
    .one h0 (by kernel_rfl) wrap4_run List.mem_cons_self fun w => sh .i32 32 w shr_shl_32, .one h0 (by kernel_rfl) wrap11_run List.mem_cons_self fun w => sh .i32 32 w shr_shl_32⟩
theorem tru_ok (w : World) (I : Interp) : ∀ o ∈ tru_ob, o.ok ⟨w, I⟩ := by
  unfold tru_ob
  simp only [List.forall_mem_cons, List.not_mem_nil, false_implies, implies_true, and_true]
  refine ⟨fun ρ _ _ hfs => ?_, fun ρ _ _ hfs => ?_⟩
  all_goals
    simp only [List.forall_mem_cons, List.not_mem_nil, false_implies, implies_true, and_true, Fact.ok, X.den, den_not, asB_b, Bool.not_eq_true'] at hfs
    simp only [Fact.ok, X.den, den_b2i, hfs]
    first | rfl | simp
theorem truth_ok (I : Interp) : ∀ c ∈ [truthK], CtrOk Tryd.prog I 134 c := by
  simp only [List.forall_mem_cons, List.not_mem_nil, false_implies, implies_true, and_true]
  exact .one (ctx_ok (by intro q hq; cases hq) : CtxOk Tryd.prog I cA) (by kernel_rfl) tru_run List.mem_cons_self fun w => tru_ok w I
theorem tru2_run : runOne cA 100 44 truthK (truthK.outs.headD (.nilp, truthK.h)) = some tru_ob := by kernel_rfl
theorem truthN_ok (I : Interp) : ∀ c ∈ [truthK], CtrOk Tryd.prog I 44 c := by
  simp only [List.forall_mem_cons, List.not_mem_nil, false_implies, implies_true, and_true]
  exact .one (ctx_ok (by intro q hq; cases hq) : CtxOk Tryd.prog I cA) (by kernel_rfl) tru2_run List.mem_cons_self fun w => tru_ok w I
theorem range_run : allRun cA 100 84 [rangeK] = true := by kernel_rfl
theorem range_ok (I : Interp) : ∀ c ∈ [rangeK], CtrOk Tryd.prog I 84 c := allRun_ok (ctx_ok (by intro q hq; cases hq)) (by kernel_rfl) range_run
end Go.Proofs.YtkphkjffcpkhjaaDoor
end
/-! strings.Fields: the contracts: the runs leave nothing to be shown. -/
noncomputable section
set_option linter.unusedSimpArgs false
set_option linter.unusedVariables false
namespace Go.Proofs.YtkphkjffcpkhjaaDoor
open Go Go.SE
set_option maxRecDepth 1000000

theorem fields_run : allRun cA 100 45 fieldsKs = true := by kernel_rfl
theorem fields_ok (I : Interp) : ∀ c ∈ fieldsKs, CtrOk Tryd.prog I 45 c := allRun_ok (ctx_ok (by intro q hq; cases hq)) (by kernel_rfl) fields_run
theorem bookA_ok (I : Interp) : BookOk Tryd.prog I bookA := by
  intro q hq
  simp only [bookA, List.mem_cons, List.not_mem_nil, or_false] at hq
  rcases hq with rfl | rfl
  · exact fields_ok I
  · exact kind_ok I
end Go.Proofs.YtkphkjffcpkhjaaDoor
end
/-! types.Pins, types.Pin at each block's pins. -/
noncomputable section
set_option linter.unusedSimpArgs false
set_option linter.unusedVariables false
namespace Go.Proofs.YtkphkjffcpkhjaaDoor
open Go Go.SE
set_option maxRecDepth 1000000

def cB : Ctx := ctxOf bookA fun _ _ _ => none
theorem pins_run : allRun cB 100 27 pinsKs = true := by kernel_rfl
theorem pins_ok (I : Interp) : ∀ c ∈ pinsKs, CtrOk Tryd.prog I 27 c := allRun_ok (ctx_ok (bookA_ok I)) (by kernel_rfl) pins_run
theorem pin_run : allRun cB 100 30 pinKs = true := by kernel_rfl
theorem pin_ok (I : Interp) : ∀ c ∈ pinKs, CtrOk Tryd.prog I 30 c := allRun_ok (ctx_ok (bookA_ok I)) (by kernel_rfl) pin_run
theorem book0_ok (I : Interp) : BookOk Tryd.prog I book0 := by
  intro q hq
  simp only [book0, List.mem_cons, List.not_mem_nil, or_false] at hq
  rcases hq with rfl | rfl | rfl | rfl | rfl | rfl
  · exact wrap_ok I
  · exact pin_ok I
  · exact pins_ok I
  · exact truth_ok I
  · exact truthN_ok I
  · exact range_ok I
end Go.Proofs.YtkphkjffcpkhjaaDoor
end
/-! What the blocks compute; what the contracts' functions stand for. -/
noncomputable section
set_option linter.unusedSimpArgs false
set_option linter.unusedVariables false
namespace Go.SE
def tr (b : Bool) : Int := if b then 1 else 0
def nz (n : Int) : Bool := decide (n ≠ 0)
/-- what is shown of a time, and how long it runs. -/
def shown (pt now k1 : Int) : Int := min (max (w32 (w32 now - k1)) 0) pt
/-- TON: q, et, and what is kept. -/
def tonZ (i _o : List Int) (k0 k1 k2 now : Int) : List Int :=
  let on := nz (i.getD 0 0)
  let pt := max (w32 (i.getD 1 0)) 0
  let rise := on && !nz (w32 k0)
  let k1 := if rise then w32 now else w32 k1
  let k2 := if rise then 0 else w32 k2
  if on then
    if k2 = 1 then [1, pt, 1, k1, 1]
    else [tr (decide (pt ≤ shown pt now k1)), shown pt now k1, 1, k1, tr (decide (pt ≤ shown pt now k1))]
  else [0, 0, 0, k1, 0]
def tofZ (i o : List Int) (k0 k1 k2 now : Int) : List Int :=
  let on := nz (i.getD 0 0)
  let pt := max (w32 (i.getD 1 0)) 0
  if on then [1, 0, 1, w32 k1, 0] else
    let k2 := if nz (w32 k0) then 1 else w32 k2
    let k1 := if nz (w32 k0) then w32 now else w32 k1
    if k2 = 0 then [0, w32 (o.getD 1 0), 0, k1, 0]
    else [tr (decide (shown pt now k1 < pt)), shown pt now k1, 0, k1, if shown pt now k1 < pt then k2 else 0]
def tpZ (i o : List Int) (k0 k1 k2 now : Int) : List Int :=
  let on := nz (i.getD 0 0)
  let pt := max (w32 (i.getD 1 0)) 0
  let go := !decide (w32 k2 = 1) && (on && !nz (w32 k0))
  let k2 := if go then 1 else w32 k2
  let k1 := if go then w32 now else w32 k1
  if k2 = 1 then
    if shown pt now k1 < pt then [1, shown pt now k1, tr on, k1, 1]
    else if on then [0, shown pt now k1, 1, k1, 2] else [0, 0, 0, k1, 0]
  else if on then [0, w32 (o.getD 1 0), 1, k1, k2] else [0, 0, 0, k1, 0]
def ctuZ (i o : List Int) (k0 k1 k2 _now : Int) : List Int :=
  let n := w16 (o.getD 1 0)
  let n := if nz (i.getD 1 0) then 0 else if nz (i.getD 0 0) && !nz (w32 k0) then min (n + 1) 32767 else n
  [tr (decide (w16 (i.getD 2 0) ≤ n)), n, tr (nz (i.getD 0 0)), w32 k1, w32 k2]
def ctdZ (i o : List Int) (k0 k1 k2 _now : Int) : List Int :=
  let n := w16 (o.getD 1 0)
  let n := if nz (i.getD 1 0) then w16 (i.getD 2 0) else if nz (i.getD 0 0) && !nz (w32 k0) then max (n - 1) (-32768) else n
  [tr (decide (n ≤ 0)), n, tr (nz (i.getD 0 0)), w32 k1, w32 k2]
def ctudZ (i o : List Int) (k0 k1 k2 _now : Int) : List Int :=
  let n := w16 (o.getD 2 0)
  let up := nz (i.getD 0 0) && !nz (w32 k0)
  let dn := nz (i.getD 1 0) && !nz (w32 k1)
  let n := if nz (i.getD 2 0) then 0 else if nz (i.getD 3 0) then w16 (i.getD 4 0) else if up && !dn then min (n + 1) 32767 else if dn && !up then max (n - 1) (-32768) else n
  [tr (decide (w16 (i.getD 4 0) ≤ n)), tr (decide (n ≤ 0)), n, tr (nz (i.getD 0 0)), tr (nz (i.getD 1 0)), w32 k2]
def rtrigZ (i _o : List Int) (k0 k1 k2 _now : Int) : List Int := [tr (nz (i.getD 0 0) && !nz (w32 k0)), tr (nz (i.getD 0 0)), w32 k1, w32 k2]
def ftrigZ (i _o : List Int) (k0 k1 k2 _now : Int) : List Int := [tr (!nz (i.getD 0 0) && nz (w32 k0)), tr (nz (i.getD 0 0)), w32 k1, w32 k2]
def srZ (i o : List Int) (k0 k1 k2 _now : Int) : List Int := [tr (nz (i.getD 0 0) || (nz (o.getD 0 0) && !nz (i.getD 1 0))), w32 k0, w32 k1, w32 k2]
def rsZ (i o : List Int) (k0 k1 k2 _now : Int) : List Int := [tr (!nz (i.getD 1 0) && (nz (i.getD 0 0) || nz (o.getD 0 0))), w32 k0, w32 k1, w32 k2]
/-- a block's step out of what the contract hands on: in, out, kept ones, the clock. -/
def stepZ (z : List Int → List Int → Int → Int → Int → Int → List Int) (l : List U) : U :=
  .l ((z ((l.getD 0 default).asL.map U.asI) ((l.getD 1 default).asL.map U.asI) (l.getD 2 default).asI (l.getD 3 default).asI (l.getD 4 default).asI (l.getD 5 default).asI).map U.i)
def arg1 (u : List U) : List U := (u.getD 0 default).asL
def fbF (k : Nat) (u : List U) : U :=
  match k with
  | 999 => .b (match u with | [.i g] => decide (g = 1) | _ => false)
  | 1 => stepZ tonZ (arg1 u)
  | 2 => stepZ tofZ (arg1 u)
  | 3 => stepZ tpZ (arg1 u)
  | 4 => stepZ ctuZ (arg1 u)
  | 5 => stepZ ctdZ (arg1 u)
  | 6 => stepZ ctudZ (arg1 u)
  | 7 => stepZ rtrigZ (arg1 u)
  | 8 => stepZ ftrigZ (arg1 u)
  | 9 => stepZ srZ (arg1 u)
  | 10 => stepZ rsZ (arg1 u)
  | 20 => (match u with | [a, b] => .i (a.asI % b.asI) | _ => default)
  | _ => default
def xs : List X → X
  | [] => .nil
  | a :: l => .o .cons a (xs l)
def ci : List CK := [.int .i64]
def stepOut (f : Nat) (ins : List X) (nout : Nat) (b c : Nat) (h : H) : SV × H :=
  let S : X := .u (.f f) (xs ins)
  (.tuple [.slice b 0 (.n 0) 1 (.n nout) (.v c), .agg ((List.range 3).map fun j => .int .i64 (.u (.fld (nout + j)) S))],
    { h with hp := [(b, .cells ((List.range nout).map fun j => .int .i64 (.u (.fld j) S)) 2 (.o .mul (.v c) (.n 1)))], nb := b + 1, nv := c + 1, fs := [laidF, .x (.o .le (.n nout) (.v c)), .x (.o .le (.v c) (.n 9223372036854775807))] })
/-- fb.Step of a block: in, out nil or a list of any length. -/
def stepK (nm : List Nat) (f no : Nat) (ni nu : Bool) : Ctr :=
  let row (i : Nat) : Blk := .rows false ci (.v i) 0 (.n 0)
  let bu := bif ni then 0 else 1
  let nb := bif nu then bu else bu + 1
  let h : H := { hp := (bif nu then [] else [(bu, row 1)]) ++ (bif ni then [] else [(0, row 0)]), nb, xb := 0, nv := 8, xv := 0, fs := [laidF] }
  ⟨[.str (.s nm), bif ni then .nils else .slice 0 0 (.n 0) 1 (.u .len (.v 0)) (.v 2), .agg [.int .i64 (.v 3), .int .i64 (.v 4), .int .i64 (.v 5)], bif nu then .nils else .slice bu 0 (.n 0) 1 (.u .len (.v 1)) (.v 6), .int .i64 (.v 7)], h,
    [stepOut f [bif ni then .nil else .v 0, bif nu then .nil else .v 1, .v 3, .v 4, .v 5, .v 7] no nb 8 h]⟩
/-- the state behind the branch in which a pin is laid. -/
def pinKind (nm : List Nat) : Nat := bif beqL nm [80, 84] || beqL nm [69, 84] then 11 else bif beqL nm [80, 86] || beqL nm [67, 86] then 3 else 1
def sliceX (h : H) : SV → Option X
  | .slice b _ _ _ _ _ => match fget h.hp b with
    | some (.rows _ _ x _ _) => some x
    | _ => none
  | _ => none
def layT (mk : Nat) (st : St) : Option St :=
  match fget st.fr 6, fget st.fr 7, fget st.fr 1, fget st.fr 3 with
  | some (.int _ i), some (.str (.s nm)), some l, some (.ptr ps _ _ _) => (sliceX st.h l).bind fun x =>
    match fget st.h.hp ps with
    | some (.cells [.ptr pb _ _ _] _ _) => match fget st.h.hp pb with
      | some (.cells (.map mb :: _) _ _) => match fget st.h.hp mb with
        | some (.map kk k m _) => some { st with fr := keepM mk st.fr, h := { st.h with hp := fset mb (.map kk k (mMset m (.s nm) (wrapX (pinKind nm) (mGet x i))) []) st.h.hp } }
        | _ => none
      | _ => none
    | _ => none
  | _, _, _, _ => none
def layJ (kp : Nat → Nat → Option Nat) (f k : Nat) (st : St) : Option St := bif Nat.beq f 29 && Nat.beq k 4 then (kp 29 4).bind fun mk => layT mk st else none
end Go.SE
end
/-! fb.Step: the context of the blocks' runs; lemmas for what is to be shown. -/
noncomputable section
set_option linter.unusedSimpArgs false
set_option linter.unusedVariables false
namespace Go.SE
theorem keyS_lit {l : List Nat} (h : small l = true) : keyS (bytesOf l) = l.map (fun n : Nat => (n : Int)) := by
  simp only [keyS, bytesOf, List.map_map]
  refine List.map_congr_left fun a ha => ?_
  have := small_lt h a ha
  simp; omega
theorem k_IN : keyS (bytesOf [73, 78]) = [73, 78] := keyS_lit rfl
theorem k_PT : keyS (bytesOf [80, 84]) = [80, 84] := keyS_lit rfl
theorem k_Q : keyS (bytesOf [81]) = [81] := keyS_lit rfl
theorem k_ET : keyS (bytesOf [69, 84]) = [69, 84] := keyS_lit rfl
theorem k_CU : keyS (bytesOf [67, 85]) = [67, 85] := keyS_lit rfl
theorem k_R : keyS (bytesOf [82]) = [82] := keyS_lit rfl
theorem k_PV : keyS (bytesOf [80, 86]) = [80, 86] := keyS_lit rfl
theorem k_CV : keyS (bytesOf [67, 86]) = [67, 86] := keyS_lit rfl
theorem k_CD : keyS (bytesOf [67, 68]) = [67, 68] := keyS_lit rfl
theorem k_LD : keyS (bytesOf [76, 68]) = [76, 68] := keyS_lit rfl
theorem k_QU : keyS (bytesOf [81, 85]) = [81, 85] := keyS_lit rfl
theorem k_QD : keyS (bytesOf [81, 68]) = [81, 68] := keyS_lit rfl
theorem k_CLK : keyS (bytesOf [67, 76, 75]) = [67, 76, 75] := keyS_lit rfl
theorem k_S1 : keyS (bytesOf [83, 49]) = [83, 49] := keyS_lit rfl
theorem k_Q1 : keyS (bytesOf [81, 49]) = [81, 49] := keyS_lit rfl
theorem k_S : keyS (bytesOf [83]) = [83] := keyS_lit rfl
theorem k_R1 : keyS (bytesOf [82, 49]) = [82, 49] := keyS_lit rfl
theorem getD_pastI {l : List U} {i : Int} (h : ¬ i < (l.length : Int)) : l.getD i.toNat default = default := getD_past l (by omega)
theorem w32_zero : w32 0 = 0 := by decide
theorem w16_zero : w16 0 = 0 := by decide
theorem w32_max0 (y : Int) : w32 (max (w32 y) 0) = max (w32 y) 0 := w32_id (by have := w32_rng y; omega) (by have := w32_rng y; omega)
theorem w32_et (x y : Int) : w32 (min (max (w32 x) 0) (max (w32 y) 0)) = min (max (w32 x) 0) (max (w32 y) 0) := w32_id (by have := w32_rng y; omega) (by have := w32_rng y; omega)
theorem max00 : max (0 : Int) 0 = 0 := rfl
theorem w32_et0 (x : Int) : w32 (min (max (w32 x) 0) 0) = min (max (w32 x) 0) 0 := w32_id (by omega) (by omega)
theorem min0m (y : Int) : min 0 (max y 0) = 0 := by omega
theorem w64_up (x : Int) : w64 (w16 x + 1) = w16 x + 1 := w64_id (by have := w16_rng x; omega) (by have := w16_rng x; omega)
theorem w64_dn (x : Int) : w64 (w16 x - 1) = w16 x - 1 := w64_id (by have := w16_rng x; omega) (by have := w16_rng x; omega)
theorem w16_inc (x : Int) : w16 (min (w16 x + 1) 32767) = min (w16 x + 1) 32767 := w16_id (by have := w16_rng x; omega) (by omega)
theorem w16_dec (x : Int) : w16 (max (w16 x - 1) (-32768)) = max (w16 x - 1) (-32768) := w16_id (by omega) (by have := w16_rng x; omega)
theorem tn0 : Int.toNat 0 = 0 := rfl
theorem tn1 : Int.toNat 1 = 1 := rfl
theorem tn2 : Int.toNat 2 = 2 := rfl
theorem tn3 : Int.toNat 3 = 3 := rfl
theorem tn4 : Int.toNat 4 = 4 := rfl
theorem fld_step (ρ : Env) (j : Nat) (z : List Int → List Int → Int → Int → Int → Int → List Int) (l : List U) :
    O1.den ρ (.fld j) (stepZ z l) = .i ((z ((l.getD 0 default).asL.map U.asI) ((l.getD 1 default).asL.map U.asI) (l.getD 2 default).asI (l.getD 3 default).asI (l.getD 4 default).asI (l.getD 5 default).asI).getD j 0) := by
  simp only [den_fld, stepZ, asL_l, List.getD_eq_getElem?_getD, List.getElem?_map]
  generalize (z _ _ _ _ _ _)[j]? = o
  cases o <;> rfl
theorem den_get (ρ : Env) (a b : U) : O2.den ρ .get a b = a.asL.getD b.asI.toNat default := rfl
theorem den_cons (ρ : Env) (a b : U) : O2.den ρ .cons a b = .l (a :: b.asL) := rfl
theorem den_mset (ρ : Env) (a b c : U) : O3.den ρ .mset a b c = .m fun q => if q = keyS b.asS then c.asI else a.asM q := rfl
theorem den_eqb (ρ : Env) (a b : U) : O2.den ρ .eqb a b = .b (a.asB == b.asB) := rfl
theorem den_asm (ρ : Env) (a : U) : O1.den ρ .asm a = .m a.asM := rfl
theorem den_add (ρ : Env) (a b : U) : O2.den ρ .add a b = .i (a.asI + b.asI) := rfl
theorem den_sub (ρ : Env) (a b : U) : O2.den ρ .sub a b = .i (a.asI - b.asI) := rfl
theorem den_lt (ρ : Env) (a b : U) : O2.den ρ .lt a b = .b (ilt a.asI b.asI) := rfl
theorem den_le (ρ : Env) (a b : U) : O2.den ρ .le a b = .b (ile a.asI b.asI) := rfl
theorem den_eq (ρ : Env) (a b : U) : O2.den ρ .eq a b = .b (ieq a.asI b.asI) := rfl
theorem den_min (ρ : Env) (a b : U) : O2.den ρ .min a b = .i (min a.asI b.asI) := by rw [← min_bif]; rfl
theorem den_max (ρ : Env) (a b : U) : O2.den ρ .max a b = .i (max a.asI b.asI) := by rw [← max_bif]; rfl
/-- (so that fbF's equations are made here, once.) -/
theorem fbF_20 (a b : U) : fbF 20 [a, b] = .i (a.asI % b.asI) := by simp only [fbF]
theorem fbF_1 (u : List U) : fbF 1 u = stepZ tonZ (arg1 u) := by simp only [fbF]
theorem tr_if (b : Bool) : (if b = true then (1 : Int) else 0) = tr b := rfl
theorem asI_default : (default : U).asI = 0 := rfl
theorem asL_nil_default : (U.l []).asL = [] := rfl
end Go.SE
namespace Go.Proofs.YtkphkjffcpkhjaaDoor
open Go Go.SE
def cS : Ctx := ctxJ book0 (fun _ _ _ => none) (layJ kpOf)
theorem cS_ok (I : Interp) : CtxOk Tryd.prog I cS := ctxJ_ok (book0_ok I)
end Go.Proofs.YtkphkjffcpkhjaaDoor
end
/-! The laws' contracts, and what is said of their loops (data). -/
noncomputable section
set_option linter.unusedSimpArgs false
set_option linter.unusedVariables false
namespace Go.SE
def knownK : Ctr := ⟨[], e0 0, [(.bool (.t true), e0 0)]⟩
/-- fb.Step's contracts that known uses, and one block more. -/
def bookN : Book := [(16, [stepK sTON 1 2 false true, stepK sTON 1 2 false false, stepK sCTU 4 2 false true, stepK sCTU 4 2 false false])]
/-- rungref1.Wrap. -/
def rwrapK (k : Nat) : Ctr := ⟨[.int .i64 (.n k), .int .i64 (.v 0)], e0 1, [(.int .i64 (wrapX k (.v 0)), e0 1)]⟩
def wrap1Ks : List Ctr := [rwrapK 3, rwrapK 4, rwrapK 11]
/-- FbEver. -/
def everRow : Blk := .rows false [.int .u32] (.v 0) 0 (.n 0)
def everK (nil : Bool) : Ctr :=
  let h : H := { hp := bif nil then [] else [(0, everRow)], nb := bif nil then 0 else 1, xb := 0, nv := 3, xv := 0, fs := [.p 4 [.v 0], laidF] }
  ⟨[bif nil then .nils else .slice 0 0 (.n 0) 1 (.u .len (.v 0)) (.v 1), .int .i64 (.v 2)], h, [(.bool (.t true), h)]⟩
def outOf (o k : List SV) (b c : Nat) (h : H) : SV × H :=
  (.tuple [.slice b 0 (.n 0) 1 (.n o.length) (.v c), .agg k],
    { h with hp := [(b, .cells o 2 (.o .mul (.v c) (.n 1)))], nb := b + 1, nv := c + 1, fs := [laidF, .x (.o .le (.n o.length) (.v c)), .x (.o .le (.v c) (.n 9223372036854775807))] })
def i64 (x : X) : SV := .int .i64 x
def inRow : Blk := .rows false ci (xs [.n 1, .v 0]) 0 (.n 0)
def ever0 : Ctr :=
  let h : H := ⟨[(0, inRow)], 1, 0, 2, 0, [.p 2 [.v 0], laidF]⟩
  ⟨[.str (.s sTON), .slice 0 0 (.n 0) 1 (.n 2) (.v 1), .agg [i64 (.n 0), i64 (.n 0), i64 (.n 0)], .nils, i64 (.n 0)], h, [outOf [i64 (.u .b2i (.o .eq (.v 0) (.n 0))), i64 (.n 0)] [i64 (.n 1), i64 (.n 0), i64 (.u .b2i (.o .eq (.v 0) (.n 0)))] 1 2 h]⟩
def ever1 : Ctr :=
  let h : H := ⟨[(1, .rows false ci (xs [.v 5, .v 6]) 0 (.n 0)), (0, inRow)], 2, 0, 7, 0, [.p 3 [.v 0, .v 2, .v 4], laidF]⟩
  let q : X := .o .or (.v 2) (.o .le (.v 0) (.v 4))
  ⟨[.str (.s sTON), .slice 0 0 (.n 0) 1 (.n 2) (.v 1), .agg [i64 (.n 1), i64 (.n 0), i64 (.u .b2i (.v 2))], .slice 1 0 (.n 0) 1 (.n 2) (.v 3), i64 (.v 4)], h, [outOf [i64 (.u .b2i q), i64 (.o .add (.c .ite q (.v 0) (.v 4)) (.n 0))] [i64 (.n 1), i64 (.n 0), i64 (.u .b2i q)] 2 7 h]⟩
def bookE : Book := [(12, [knownK]), (15, wrap1Ks), (16, [ever0, ever1])]
def xint (k : IntKind) (i : Nat) : SV := .int k (.v i)
/-- the loop of FbEver. -/
def everT (st : St) : Option Tm :=
  match fget st.fr 0, fget st.fr 1, fget st.fr 6 with
  | some (.slice sb sj sr sw len sc), some (.int .i64 pt), some (.ptr kb _ _ _) =>
    let v := st.h.nv
    let b := st.h.nb
    let sl : SV := .slice sb sj sr sw len sc
    let rows := match fget st.h.hp 0 with
      | some (.rows false ks x e t) => [(0, Blk.rows false ks x e t)]
      | _ => []
    let fr := [(10, xint .i64 (v + 2)), (9, .bool (.v (v + 1))), (8, xint .i64 v), (7, xint .i64 v), (6, .ptr kb (.n 0) 0 0), (5, .slice b 0 (.n 0) 1 (.n 2) (.v (v + 5))), (1, .int .i64 pt), (0, sl)]
    let hp := [(b, Blk.cells [xint .i64 (v + 3), xint .i64 (v + 4)] 2 (.o .mul (.v (v + 5)) (.n 1))), (kb, .cells [i64 (.n 1), i64 (.n 0), i64 (.u .b2i (.v (v + 1)))] 34 (.n 3))] ++ rows
    let fs := (Fact.p 1 [pt, .v v, .v (v + 1), .v (v + 2), len]) :: ((.x (.o .le (.n 2) (.v (v + 5)))) :: ((.x (.o .le (.v (v + 5)) (.n 9223372036854775807))) :: (.p 2 [pt]) :: st.h.fs))
    some ⟨⟨fr, st.n, ⟨hp, b + 1, 0, v + 6, 0, fs⟩⟩, .o .sub len (.v (v + 2)), [], []⟩
  | _, _, _ => none
def lpEver (f k : Nat) (st : St) : Option Tm := bif Nat.beq f 7 && Nat.beq k 9 then everT st else none
/-! Counters. -/
def placeK (n : Nat) : Ctr := ⟨[.int .i64 (.v 0), .int .i64 (.n n)], e0 1, [(.int .i64 (.o (.f 20) (.v 0) (.n n)), e0 1)]⟩
def placeC (n : Nat) : Ctr := ⟨[.int .i64 (.v 0), .int .i64 (.n n)], e0 1, (List.range n).map fun (j : Nat) => (SV.int .i64 (.n (j : Int)), e0 1)⟩
def incX (c : X) : X := .o .min (.u (.wrap .i64) (.o .add c (.n 1))) (.n 32767)
def decX (c : X) : X := .o .max (.u (.wrap .i64) (.o .sub c (.n 1))) (.n (-32768))
def cntX (up : Bool) (x y pv was cv : X) : X :=
  .o .add (.c .ite y (bif up then .n 0 else pv) (.c .ite (.o .and x (.u .not was)) (bif up then incX cv else decX cv) cv)) (.n 0)
def b2 (x : X) : SV := i64 (.u .b2i x)
def rowsOf (l : List X) : Blk := .rows false ci (xs l) 0 (.n 0)
def cntK (up : Bool) : Ctr :=
  let h : H := ⟨[(1, rowsOf [.v 5, .v 6]), (0, rowsOf [.u .b2i (.v 0), .u .b2i (.v 1), .v 2])], 2, 0, 9, 0, [.p 5 [.v 2], .p 5 [.v 6], laidF]⟩
  let c := cntX up (.v 0) (.v 1) (.v 2) (.v 4) (.v 6)
  ⟨[.str (.s (bif up then sCTU else sCTD)), .slice 0 0 (.n 0) 1 (.n 3) (.v 3), .agg [b2 (.v 4), i64 (.n 0), i64 (.n 0)], .slice 1 0 (.n 0) 1 (.n 2) (.v 7), i64 (.v 8)], h,
    [outOf [b2 (bif up then .o .le (.v 2) c else .o .le c (.n 0)), i64 c] [b2 (.v 0), i64 (.n 0), i64 (.n 0)] 2 9 h]⟩
def rowsAt (h : H) (b : Nat) : List (Nat × Blk) :=
  match fget h.hp b with
  | some (.rows false ks x e t) => [(b, .rows false ks x e t)]
  | _ => []
def capFs (n : Nat) (v : Nat) (l : List Fact) : List Fact := (.x (.o .le (.n n) (.v v))) :: ((.x (.o .le (.v v) (.n 9223372036854775807))) :: l)
def cntT (st : St) : Option Tm :=
  match fget st.fr 1, fget st.fr 2, fget st.fr 9, fget st.fr 12 with
  | some (.slice sb sj sr sw len sc), some (.int .i64 pv), some blk, some (.ptr kb _ _ _) =>
    let v := st.h.nv
    let b := st.h.nb
    let fr := [(14, xint .i64 (v + 2)), (13, .bool (.v (v + 1))), (12, .ptr kb (.n 0) 0 0), (11, .slice b 0 (.n 0) 1 (.n 2) (.v (v + 4))), (10, xint .i64 v), (9, blk), (2, i64 pv), (1, .slice sb sj sr sw len sc)]
    let hp := [(b, Blk.cells [xint .i64 (v + 3), xint .i64 v] 2 (.o .mul (.v (v + 4)) (.n 1))), (kb, .cells [b2 (.v (v + 1)), i64 (.n 0), i64 (.n 0)] 34 (.n 3))] ++ rowsAt st.h sb
    let fs := Fact.p 5 [.v v] :: (Fact.p 5 [pv] :: (Fact.p 6 [.v (v + 2)] :: capFs 2 (v + 4) st.h.fs))
    some ⟨⟨fr, st.n, ⟨hp, b + 1, 0, v + 5, 0, fs⟩⟩, .o .sub len (.v (v + 2)), [], []⟩
  | _, _, _, _ => none
def lpCnt (f k : Nat) (st : St) : Option Tm := bif Nat.beq f 4 && Nat.beq k 12 then cntT st else none
def setL (l : List SV) (k : Nat) (s : SV) : List SV := l.take k ++ s :: l.drop (k + 1)
/-- behind 'if b { in[k] = 1 }'. -/
def inJ (mk : Nat) (sl kk cc : Nat) (st : St) : Option St :=
  match fget st.fr sl, fget st.fr kk, fget st.fr cc with
  | some (.slice b _ _ _ _ _), some (.int _ (.n k)), some (.bool x) => match fget st.h.hp b with
    | some (.cells l e t) => some { st with fr := keepM mk st.fr, h := { st.h with hp := fset b (.cells (setL l k.toNat (b2 x)) e t) st.h.hp } }
    | _ => none
  | _, _, _ => none
def inBits (h : H) : SV → List X
  | .slice b _ _ _ _ _ => match fget h.hp b with
    | some (.cells l _ _) => l.filterMap fun s => match s with
      | .int _ (.u .b2i x) => some x
      | _ => none
    | _ => []
  | _ => []
def cntJ (mk : Nat) (st : St) : Option St :=
  match fget st.fr 15, fget st.fr 2, fget st.fr 13, fget st.fr 10, fget st.fr 9 with
  | some sl, some (.int _ pv), some (.bool was), some (.int _ cv), some (.str (.s nm)) => match inBits st.h sl with
    | [x, y] => some { st with fr := fset 10 (i64 (cntX (beqL nm sCTU) x y pv was cv)) (keepM mk st.fr) }
    | _ => none
  | _, _, _, _, _ => none
def jnCnt (kp : Nat → Nat → Option Nat) (f k : Nat) (st : St) : Option St :=
  bif Nat.beq f 4 && Nat.beq k 19 then (kp 4 19).bind fun mk => inJ mk 15 16 51 st else
  bif Nat.beq f 4 && Nat.beq k 1004 then cntJ 0xDE06 st else none
def bookC : Book := [(12, [knownK]), (14, [placeC 2]), (15, wrap1Ks), (16, [cntK true, cntK false])]
def cntsK (nil : Bool) : Ctr :=
  let h : H := { hp := bif nil then [] else [(0, .rows false [.bool, .bool, .bool] (.v 1) 0 (.n 0))], nb := bif nil then 0 else 1, xb := 0, nv := 5, xv := 0, fs := [laidF] }
  ⟨[i64 (.v 0), bif nil then .nils else .slice 0 0 (.n 0) 3 (.u .len (.v 1)) (.v 2), i64 (.v 3), i64 (.v 4)], h, [(.bool (.t true), h)]⟩
/-! Both ways. -/
def bothX (x0 x1 x2 x3 pv up dn cv : X) : X :=
  let a : X := .o .and x0 (.u .not up)
  let b : X := .o .and x1 (.u .not dn)
  .o .add (.c .ite x2 (.n 0) (.c .ite x3 pv (.c .ite (.o .and a (.u .not b)) (incX cv) (.c .ite (.o .and b (.u .not a)) (decX cv) cv)))) (.n 0)
def bothK : Ctr :=
  let h : H := ⟨[(1, rowsOf [.v 8, .v 9, .v 10]), (0, rowsOf [.u .b2i (.v 0), .u .b2i (.v 1), .u .b2i (.v 2), .u .b2i (.v 3), .v 4])], 2, 0, 13, 0, [.p 5 [.v 4], .p 5 [.v 10], laidF]⟩
  let c := bothX (.v 0) (.v 1) (.v 2) (.v 3) (.v 4) (.v 6) (.v 7) (.v 10)
  ⟨[.str (.s sCTUD), .slice 0 0 (.n 0) 1 (.n 5) (.v 5), .agg [b2 (.v 6), b2 (.v 7), i64 (.n 0)], .slice 1 0 (.n 0) 1 (.n 3) (.v 11), i64 (.v 12)], h,
    [outOf [b2 (.o .le (.v 4) c), b2 (.o .le c (.n 0)), i64 c] [b2 (.v 0), b2 (.v 1), i64 (.n 0)] 2 13 h]⟩
def bothT (st : St) : Option Tm :=
  match fget st.fr 0, fget st.fr 1, fget st.fr 9 with
  | some (.slice sb sj sr sw len sc), some (.int .i64 pv), some (.ptr kb _ _ _) =>
    let v := st.h.nv
    let b := st.h.nb
    let fr := [(12, xint .i64 (v + 3)), (11, .bool (.v (v + 2))), (10, .bool (.v (v + 1))), (9, .ptr kb (.n 0) 0 0), (8, .slice b 0 (.n 0) 1 (.n 3) (.v (v + 6))), (7, xint .i64 v), (1, i64 pv), (0, .slice sb sj sr sw len sc)]
    let hp := [(b, Blk.cells [xint .i64 (v + 4), xint .i64 (v + 5), xint .i64 v] 2 (.o .mul (.v (v + 6)) (.n 1))), (kb, .cells [b2 (.v (v + 1)), b2 (.v (v + 2)), i64 (.n 0)] 34 (.n 3))] ++ rowsAt st.h sb
    let fs := Fact.p 5 [.v v] :: (Fact.p 5 [pv] :: (Fact.p 6 [.v (v + 3)] :: capFs 3 (v + 6) st.h.fs))
    some ⟨⟨fr, st.n, ⟨hp, b + 1, 0, v + 7, 0, fs⟩⟩, .o .sub len (.v (v + 3)), [], []⟩
  | _, _, _ => none
def lpBoth (f k : Nat) (st : St) : Option Tm := bif Nat.beq f 6 && Nat.beq k 11 then bothT st else none
def bothJ (mk : Nat) (st : St) : Option St :=
  match fget st.fr 13, fget st.fr 1, fget st.fr 10, fget st.fr 11, fget st.fr 7 with
  | some sl, some (.int _ pv), some (.bool up), some (.bool dn), some (.int _ cv) => match inBits st.h sl with
    | [x0, x1, x2, x3] => some { st with fr := fset 7 (i64 (bothX x0 x1 x2 x3 pv up dn cv)) (keepM mk st.fr) }
    | _ => none
  | _, _, _, _, _ => none
def jnBoth (kp : Nat → Nat → Option Nat) (f k : Nat) (st : St) : Option St :=
  bif Nat.beq f 6 && Nat.beq k 18 then (kp 6 18).bind fun mk => inJ mk 13 14 46 st else
  bif Nat.beq f 6 && Nat.beq k 1004 then bothJ 0x3F83 st else none
def spBoth (f k : Nat) (st : St) : List X := bif Nat.beq f 6 && Nat.beq k 19 then (match fget st.fr 13 with | some sl => (inBits st.h sl).take 2 | none => []) else []
def bookB : Book := [(12, [knownK]), (15, wrap1Ks), (16, [bothK])]
def bothsK (nil : Bool) : Ctr :=
  let h : H := { hp := bif nil then [] else [(0, .rows false [.bool, .bool, .bool, .bool] (.v 0) 0 (.n 0))], nb := bif nil then 0 else 1, xb := 0, nv := 4, xv := 0, fs := [laidF] }
  ⟨[bif nil then .nils else .slice 0 0 (.n 0) 4 (.u .len (.v 0)) (.v 1), i64 (.v 2), i64 (.v 3)], h, [(.bool (.t true), h)]⟩
end Go.SE
end
/-! FbApart: contracts and the loop of Nums (data). -/
noncomputable section
set_option linter.unusedSimpArgs false
set_option linter.unusedVariables false
namespace Go.SE
/-- no more than 20, as the law's own test says it. -/
def le20 (x : X) : Fact := .x (.u .not (.o .lt (.n 20) x))
def lenV (i : Nat) : X := .u .len (.v i)
def viewR (x : X) : Blk := .rows false ci x 0 (.n 0)
def numsK : Ctr :=
  let h : H := ⟨[(1, viewR (.v 0)), (0, viewR (.v 0))], 2, 0, 3, 0, [le20 (lenV 0)]⟩
  ⟨[.slice 0 0 (.n 0) 1 (lenV 0) (.v 1), .slice 1 0 (.n 0) 1 (lenV 0) (.v 2)], h, [(.bool (.t true), h)]⟩
def numsNN : Ctr := ⟨[.nils, .nils], e0 0, [(.bool (.t true), e0 0)]⟩
def numsNE : Ctr :=
  let h : H := ⟨[(0, viewR .nil)], 1, 0, 1, 0, []⟩
  ⟨[.nils, .slice 0 0 (.n 0) 1 (.n 0) (.v 0)], h, [(.bool (.t true), h)]⟩
def numsT (st : St) : Option Tm :=
  match fget st.fr 0, fget st.fr 1 with
  | some (.slice ab aj ar aw len ac), some y =>
    let v := st.h.nv
    let fr := [(5, xint .i64 v), (1, y), (0, .slice ab aj ar aw len ac)]
    some ⟨⟨fr, st.n, { st.h with nv := v + 1, fs := .x (.o .lt (.n (-1)) (.v v)) :: st.h.fs }⟩, .o .sub len (.v v), [], []⟩
  | _, _ => none
def lpNums (f k : Nat) (st : St) : Option Tm := bif Nat.beq f 18 && Nat.beq k 4 then (match fget st.fr 0 with | some (.slice _ _ _ _ (.n _) _) => none | _ => numsT st) else none
/-- what is handed in: nothing, no number, numbers. -/
def givenS (n b v : Nat) : SV := match n with
  | 0 => .nils
  | 1 => .slice b 0 (.n 0) 1 (.n 0) (.v (v + 1))
  | _ => .slice b 0 (.n 0) 1 (lenV v) (.v (v + 1))
def givenB (n b v : Nat) : List (Nat × Blk) := match n with
  | 0 => []
  | 1 => [(b, viewR .nil)]
  | _ => [(b, viewR (.v v))]
def givenF (n v : Nat) : List Fact := match n with
  | 2 => [.x (.o .lt (.n 0) (lenV v))]
  | _ => []
def apartK (i o : Nat) : Ctr :=
  let ib := match i with | 0 => 0 | _ => 1
  let ob := match o with | 0 => ib | _ => ib + 1
  let h : H := ⟨givenB o ib 7 ++ givenB i 0 5, ob, 0, 9, 0, givenF o 7 ++ (givenF i 5 ++ [laidF])⟩
  ⟨[i64 (.v 0), givenS i 0 5, .agg [i64 (.v 1), i64 (.v 2), i64 (.v 3)], givenS o ib 7, i64 (.v 4)], h, [(.bool (.t true), h)]⟩
def stepKs (s : List Nat) (f n : Nat) : List Ctr := [stepK s f n false false, stepK s f n false true, stepK s f n true false, stepK s f n true true]
def bookAp : Book := [(12, [knownK]), (14, [placeC 10]), (18, [numsK, numsNN, numsNE]),
  (16, stepKs sTON 1 2 ++ (stepKs sTOF 2 2 ++ (stepKs sTP 3 2 ++ (stepKs sCTU 4 2 ++ (stepKs sCTD 5 2 ++ (stepKs sCTUD 6 3 ++ (stepKs sR_TRIG 7 1 ++ (stepKs sF_TRIG 8 1 ++ (stepKs sSR 9 1 ++ stepKs sRS 10 1)))))))))]
end Go.SE
end
/-! FbDelays: contracts and loops (data). -/
noncomputable section
set_option linter.unusedSimpArgs false
set_option linter.unusedVariables false
namespace Go.SE
/-- rungref17.Step of a timer: two numbers in, none or two out. -/
def refK (nm : List Nat) (f : Nat) (nu : Bool) : Ctr :=
  let nb := bif nu then 1 else 2
  let len2 (i : Nat) : Fact := .x (.o .eq (lenV i) (.n 2))
  let h : H := { hp := (bif nu then [] else [(1, viewR (.v 1))]) ++ [(0, viewR (.v 0))], nb, xb := 0, nv := 8, xv := 0, fs := (bif nu then [] else [len2 1]) ++ [len2 0, laidF] }
  ⟨[.str (.s nm), .slice 0 0 (.n 0) 1 (.n 2) (.v 2), .agg [i64 (.v 3), i64 (.v 4), i64 (.v 5)], bif nu then .nils else .slice 1 0 (.n 0) 1 (.n 2) (.v 6), i64 (.v 7)], h,
    [stepOut f [.v 0, bif nu then .nil else .v 1, .v 3, .v 4, .v 5, .v 7] 2 nb 8 h]⟩
/-- rungref17.timer. -/
def timerK (nm : List Nat) (f : Nat) : Ctr :=
  let h : H := ⟨[(0, viewR (.v 6))], 1, 0, 8, 0, [.p 25 [.v 1, .v 2, .v 3, .v 4, .v 7], .x (.o .eq (lenV 6) (.n 2)), laidF]⟩
  ⟨[.str (.s nm), .bool (.v 0), i64 (.v 1), .agg [i64 (.v 2), i64 (.v 3), i64 (.v 4)], .slice 0 0 (.n 0) 1 (.n 2) (.v 5), i64 (.v 7)], h,
    [stepOut f [xs [.u .b2i (.v 0), .v 1], .v 6, .v 2, .v 3, .v 4, .v 7] 2 1 8 h]⟩
def bookRf : Book := [(15, wrap1Ks), (38, [timerK sTON 1, timerK sTOF 2, timerK sTP 3])]
/-- a timer's life: the state behind so many steps (fS), all that it told (fA). -/
def lifeX (f : Nat) (l now i : X) : X := .u (.f f) (xs [l, now, i])
def livesK (nm : List Nat) (fA : Nat) : Ctr :=
  let h : H := ⟨[(1, viewR (.v 1)), (0, .nest ci (.v 0) (.v 5) 26 (.o .mul (.v 3) (.n 1)) 2)], 2, 0, 6, 0, [.x (.o .eq (lenV 0) (.v 2)), .x (.o .eq (lenV 1) (.v 2)), .x (.o .lt (.n 0) (.v 2)), .x (.o .le (.v 2) (.n 80)), .q (.v 2) (.o .add (.v 2) (.n 0)), .p 21 [.v 0], laidF]⟩
  ⟨[.str (.s nm), .slice 0 0 (.n 0) 1 (.v 2) (.v 3), .slice 1 0 (.n 0) 1 (.v 2) (.v 4)], h,
    [(.tuple [.slice 2 0 (.n 0) 1 (.v 2) (.v 6), .bool (.t true)],
      { h with hp := (2, .nest ci (lifeX fA (.v 0) (.v 1) (.v 2)) (.v 7) 26 (.o .mul (.v 6) (.n 1)) 2) :: h.hp, nb := 3, nv := 8, fs := [] })]⟩
def livesNil (nm : List Nat) : Ctr := ⟨[.str (.s nm), .nils, .nils], e0 0, [(.tuple [.nils, .bool (.t true)], e0 0)]⟩
def nestOf' (h : H) : SV → Option (Nat × X)
  | .slice b _ _ _ _ _ => match fget h.hp b with
    | some (.nest _ x _ _ _ _) => some (b, x)
    | some (.rows _ _ x _ _) => some (b, x)
    | _ => none
  | _ => none
def keepBlks (h : H) (bs : List Nat) : List (Nat × Blk) := bs.filterMap fun b => (fget h.hp b).map fun k => (b, k)
def livesT (fS fA : Nat) (st : St) : Option Tm :=
  match fget st.fr 0, fget st.fr 1, fget st.fr 2, fget st.fr 9, fget st.fr 12, fget st.fr 11 with
  | some nm, some l, some now, some (.ptr kb _ _ _), some (.ptr kb2 _ _ _), some (.slice _ _ _ _ _ _) => (nestOf' st.h l).bind fun lb => (nestOf' st.h now).bind fun nb =>
    let v := st.h.nv
    let b := st.h.nb
    let i : X := .v v
    let S (j : Nat) : SV := i64 (.u (.fld j) (lifeX fS lb.2 nb.2 i))
    let tot (k : Nat) : X := .o .mul (.v (v + k)) (.n 1)
    let fr := [(13, i64 i), (12, .ptr kb2 (.n 0) 0 0), (11, .slice (b + 1) 0 (.n 0) 1 (.n 2) (.v (v + 2))), (10, .slice (b + 2) 0 (.n 0) 1 i (.v (v + 3))), (9, .ptr kb (.n 0) 0 0), (8, .slice b 0 (.n 0) 1 (.n 2) (.v (v + 1))), (2, now), (1, l), (0, nm)]
    let hp := [(b + 2, Blk.nest ci (lifeX fA lb.2 nb.2 i) (.v (v + 4)) 26 (tot 3) 2), (b + 1, .cells [S 0, S 1] 2 (tot 2)), (b, .bor (b + 2) (.o .sub i (.n 1)) ci (xs [.u (.fld 0) (lifeX fS lb.2 nb.2 i), .u (.fld 1) (lifeX fS lb.2 nb.2 i)])), (kb2, .cells [S 2, S 3, S 4] 34 (.n 3)), (kb, .cells [S 2, S 3, S 4] 34 (.n 3))] ++ keepBlks st.h [nb.1, lb.1]
    let fs := Fact.x (.o .lt (.n 0) i) :: (.q i (.o .add i (.n 0)) :: (.x (.o .le i (mLen lb.2)) :: (.x (.o .le i (.v (v + 3))) :: (.x (.o .le (.v (v + 3)) (.n 9223372036854775807)) :: (.x (.o .eq (.u .len (.v (v + 4))) i) :: capFs 2 (v + 1) (capFs 2 (v + 2) st.h.fs))))))
    some ⟨⟨fr, st.n, ⟨hp, b + 3, 0, v + 5, 0, fs⟩⟩, .o .sub (mLen lb.2) i, [], []⟩
  | _, _, _, _, _, _ => none
def lpLives (fS fA : Nat) (f k : Nat) (st : St) : Option Tm := bif Nat.beq f 13 && Nat.beq k 7 then livesT fS fA st else none
def numsCC : Ctr :=
  let h : H := ⟨[(1, viewR (.v 0)), (0, viewR (.v 0))], 2, 0, 3, 0, [.x (.o .eq (lenV 0) (.n 2))]⟩
  ⟨[.slice 0 0 (.n 0) 1 (.n 2) (.v 1), .slice 1 0 (.n 0) 1 (.n 2) (.v 2)], h, [(.bool (.t true), h)]⟩
def bookLi : Book := [(18, [numsCC]), (16, stepKs sTON 1 2 ++ (stepKs sTOF 2 2 ++ stepKs sTP 3 2)), (23, [refK sTON 1 false, refK sTON 1 true, refK sTOF 2 false, refK sTOF 2 true, refK sTP 3 false, refK sTP 3 true])]
/-! FbDelays itself. -/
def bookDl : Book := [(12, [knownK]), (13, [livesK sTON 35, livesK sTOF 36, livesK sTP 37, livesNil sTON, livesNil sTOF, livesNil sTP])]
def onX (o p i : X) : X := .u (.f 41) (xs [o, p, i])
def nowX (s i : X) : X := .u (.f 42) (xs [s, i])
def timeX (s i : X) : X := .u (.f 43) (xs [s, i])
def buildT (st : St) : Option Tm :=
  match fget st.fr 0, fget st.fr 1, fget st.fr 2, fget st.fr 7, fget st.fr 8 with
  | some o, some s, some (.int k p), some (.slice _ _ _ _ _ _), some (.slice _ _ _ _ _ _) => (nestOf' st.h o).bind fun ob => (nestOf' st.h s).bind fun sb =>
    let v := st.h.nv
    let b := st.h.nb
    let i : X := .v v
    let tot (k : Nat) : X := .o .mul (.v (v + k)) (.n 1)
    let fr := [(10, i64 i), (9, i64 (timeX sb.2 i)), (8, .slice (b + 1) 0 (.n 0) 1 i (.v (v + 2))), (7, .slice b 0 (.n 0) 1 i (.v (v + 1))), (2, .int k p), (1, s), (0, o)]
    let hp := [(b + 1, Blk.rows true ci (nowX sb.2 i) 2 (tot 2)), (b, .nest ci (onX ob.2 p i) (.v (v + 3)) 26 (tot 1) 2)] ++ keepBlks st.h [sb.1, ob.1]
    let fs := Fact.x (.o .lt (.n 0) i) :: (.q i (.o .add i (.n 0)) :: (.x (.o .le i (mLen ob.2)) :: (.x (.o .le i (mLen sb.2)) :: (.x (.o .le i (.v (v + 1))) :: (.x (.o .le (.v (v + 1)) (.n 9223372036854775807)) :: (.x (.o .le i (.v (v + 2))) :: (.x (.o .le (.v (v + 2)) (.n 9223372036854775807)) :: (.x (.o .eq (.u .len (.v (v + 3))) i) :: st.h.fs))))))))
    some ⟨⟨fr, st.n, ⟨hp, b + 2, 0, v + 4, 0, fs⟩⟩, .o .sub (mLen ob.2) i, [], []⟩
  | _, _, _, _, _ => none
def delayT (st : St) : Option Tm :=
  match fget st.fr 7, fget st.fr 8, fget st.fr 12, fget st.fr 13, fget st.fr 15, fget st.fr 17 with
  | some (.slice b7 _ _ _ n c7), some (.slice b8 _ _ _ _ c8), some (.int _ p), some (.slice b13 _ _ _ _ c13), some (.slice b15 _ _ _ _ c15), some (.slice b17 _ _ _ _ c17) =>
    let v := st.h.nv
    let nst (b : Nat) (x : X) : List (Nat × Blk) := match fget st.h.hp b with
      | some (.nest ks _ cx e t e2) => [(b, .nest ks x cx e t e2)]
      | some (.rows o ks _ e t) => [(b, .rows o ks x e t)]
      | _ => []
    let sl (b : Nat) (c : X) : SV := .slice b 0 (.n 0) 1 n c
    let fr := [(23, xint .i64 (v + 4)), (22, .bool (.v (v + 3))), (21, xint .i64 (v + 2)), (20, xint .i64 (v + 1)), (19, xint .i64 v), (17, sl b17 c17), (15, sl b15 c15), (13, sl b13 c13), (12, i64 (.v (v + 10))), (8, sl b8 c8), (7, sl b7 c7)]
    let hp := nst b17 (.v (v + 9)) ++ (nst b15 (.v (v + 8)) ++ (nst b13 (.v (v + 7)) ++ (nst b8 (.v (v + 6)) ++ nst b7 (.v (v + 5)))))
    let fs := [Fact.p 24 [.v (v + 5), .v (v + 6), .v (v + 7), .v (v + 8), .v (v + 9), n, .v (v + 10), .v (v + 4), .v v, .v (v + 1), .v (v + 2), .v (v + 3)], .x (.o .lt (.n (-1)) (.v (v + 4)))]
    some ⟨⟨fr, st.n, ⟨hp, st.h.nb, 0, v + 11, 0, fs⟩⟩, .o .sub n (.v (v + 4)), [], []⟩
  | _, _, _, _, _, _ => none
def lpDel (f k : Nat) (st : St) : Option Tm := bif Nat.beq f 3 && Nat.beq k 9 then buildT st else bif Nat.beq f 3 && Nat.beq k 25 then (match fget st.fr 7 with | some .nils => none | _ => delayT st) else none
def openX (fs : List Fact) (l : List X) : List X := l.filter fun x => match x with
  | .t _ => false
  | x => !known fs x && !known fs (mNot x)
def spDel (f k : Nat) (st : St) : List X := bif Nat.beq f 3 && Nat.beq k 38 then
  match fget st.fr 8, fget st.fr 12, fget st.fr 13, fget st.fr 19, fget st.fr 20, fget st.fr 23, fget st.fr 24 with
  | some now, some (.int _ p), some a, some (.int _ since), some (.int _ gone), some (.int _ i), some (.bool is) => match nestOf' st.h now, nestOf' st.h a with
    | some nb, some ab => openX st.h.fs [is, mB2 .eq (mGet (mGet ab.2 i) (.n 0)) (.n 1), mB2 .le p (mWrap .i64 (mI2 .sub (mGet nb.2 i) since)), mB2 .le (.n 0) gone]
    | _, _ => []
  | _, _, _, _, _, _, _ => [] else []
/-- the joins. -/
def setB (mk d : Nat) (x : X) (st : St) : Option St := some { st with fr := fset d (.bool x) (keepM mk st.fr) }
def setI (mk d : Nat) (x : X) (st : St) : Option St := some { st with fr := fset d (i64 (.v st.h.nv)) (keepM mk st.fr), h := { st.h with nv := st.h.nv + 1, fs := .q (.v st.h.nv) (.o .add x (.n 0)) :: st.h.fs } }
def setJ (mk d : Nat) (x : X) (st : St) : Option St := some { st with fr := fset d (i64 (.o .add x (.n 0))) (keepM mk st.fr) }
def bo (st : St) (t : Nat) : Option X := match fget st.fr t with | some (.bool x) => some x | _ => none
def io (st : St) (t : Nat) : Option X := match fget st.fr t with | some (.int .i64 x) => some x | _ => none
def rowAt (st : St) (t : Nat) (i : X) : Option X := (fget st.fr t).bind fun s => (nestOf' st.h s).map fun q => mGet q.2 i
def qAt (st : St) (t : Nat) (i : X) : Option X := (rowAt st t i).map fun x => mGet x (.n 0)
def andX (a b : X) : X := .o .and a b
def notX (a : X) : X := .u .not a
def neqB (a b : X) : X := .u .not (.o .eqb a b)
def iteB (c a b : X) : X := .o .or (.o .and c a) (.o .and (.u .not c) b)
/-- how much there is since then. -/
def agoX (now then_ : X) : X := .u (.wrap .i64) (.o .sub now then_)
def allM : Nat := 2 ^ 244 - 1
def jnDel (kp : Nat → Nat → Option Nat) (f k : Nat) (st : St) : Option St := bif Nat.beq f 3 then
  let mk (r : Nat) : Nat := (kp 3 r).getD allM
  (bif Nat.beq k 14 then (bo st 58).bind fun c => setJ (mk 14) 11 (.c .ite c (.n 1) (.n 0)) st else
  (bo st 24).bind fun is => (io st 23).bind fun i => (rowAt st 8 i).bind fun now => (io st 12).bind fun p =>
  (bif Nat.beq k 2028 then (bo st 22).bind fun was => setB (mk 28) 119 (andX is (notX was)) st
  else bif Nat.beq k 29 then (bo st 119).bind fun c => (io st 19).bind fun s => setI (mk 29) 19 (.c .ite c now s) st
  else bif Nat.beq k 2030 then (bo st 22).bind fun was => setB (mk 30) 128 (andX (notX is) was) st
  else bif Nat.beq k 31 then (bo st 128).bind fun c => (io st 20).bind fun s => setI (mk 31) 20 (.c .ite c now s) st
  else bif Nat.beq k 2032 then (io st 21).bind fun q => setB (mk 32) 144 (andX (.o .le (.n 0) q) (.o .le p (agoX now q))) st
  else bif Nat.beq k 2034 then (bo st 22).bind fun was => setB (mk 34) 149 (andX is (notX was)) st
  else bif Nat.beq k 33 then (bo st 22).bind fun was => (bo st 144).bind fun c => (io st 21).bind fun q => setI (Nat.land (mk 32) (2 ^ 144 - 1)) 21 (.c .ite c (.c .ite (andX is (notX was)) (.n (-2)) (.n (-1))) q) st
  else bif Nat.beq k 2036 then (bo st 22).bind fun was => (io st 21).bind fun q => setB (mk 36) 158 (andX (.o .eq q (.n (-1))) (andX is (notX was))) st
  else bif Nat.beq k 37 then (bo st 158).bind fun c => (io st 21).bind fun q => setI (Nat.land (mk 36) (2 ^ 25 - 1 - 2 ^ 22)) 21 (.c .ite c now q) st
  else bif Nat.beq k 2038 then (io st 19).bind fun s => (io st 20).bind fun g => (qAt st 13 i).bind fun a => (qAt st 15 i).bind fun b =>
    setB (2 ^ 25 - 1) 206 (.o .or (neqB (.o .eq a (.n 1)) (andX is (.o .le p (agoX now s)))) (neqB (.o .eq b (.n 1)) (.o .or is (andX (.o .le (.n 0) g) (.o .lt (agoX now g) p))))) st
  else bif Nat.beq k 2040 then (io st 21).bind fun q => (qAt st 17 i).bind fun c =>
    setB (2 ^ 25 - 1) 240 (.o .or (andX (andX (.o .le (.n 0) q) (.o .lt (agoX now q) p)) (notX (.o .eq c (.n 1)))) (andX (.o .eq q (.n (-1))) (notX (.o .eq c (.n 0))))) st
  else none)) else none
/-- FbDelays: on, steps nil or of any length. -/
def delK (n1 n2 : Bool) : Ctr :=
  let b2 := bif n1 then 0 else 1
  let nb := bif n2 then b2 else b2 + 1
  let h : H := ⟨(bif n2 then [] else [(b2, .rows false [.int .u8] (.v 1) 0 (.n 0))]) ++ (bif n1 then [] else [(0, .rows false [.bool] (.v 0) 0 (.n 0))]), nb, 0, 5, 0, [.p 22 [.v 1, .v 4], laidF]⟩
  ⟨[bif n1 then .nils else .slice 0 0 (.n 0) 1 (lenV 0) (.v 2), bif n2 then .nils else .slice b2 0 (.n 0) 1 (lenV 1) (.v 3), .int .u8 (.v 4)], h, [(.bool (.t true), { h with hp := [], fs := [] })]⟩
end Go.SE
end
/-! What is to be shown where a premise is wrong in itself. -/
noncomputable section
set_option linter.unusedSimpArgs false
set_option linter.unusedVariables false
namespace Go.SE
def rho0 (F : Nat → List U → U) : Env := ⟨fun _ => default, F, fun _ _ => True⟩
def noVar : Nat → Bool := fun _ => false
/-- a premise without variables that is wrong. -/
def wrongF (F : Nat → List U → U) : Fact → Bool
  | .x e => bif e.vs noVar then !(e.den (rho0 F)).asB else false
  | _ => false
theorem wrongF_ok {F : Nat → List U → U} {f : Fact} (h : wrongF F f = true) {ρ : Env} (hf : ρ.f = F) : ¬ f.ok ρ := by
  cases f <;> simp only [wrongF, Bool.false_eq_true] at h
  rename_i e
  cases hv : e.vs noVar with
  | false => simp [hv] at h
  | true =>
    simp only [hv, cond_true, Bool.not_eq_true'] at h
    intro hk
    have := X.den_vs (p := noVar) (ρ := ρ) (ρ' := rho0 F) hf (fun i hi => by cases hi) hv
    simp only [Fact.ok, this, h] at hk
    cases hk
def wrongO (F : Nat → List U → U) (o : Obl) : Bool := o.fs.any (wrongF F)
theorem wrongO_ok {F : Nat → List U → U} {o : Obl} (h : wrongO F o = true) {w0 : W0} (hI : w0.i.f = F) : o.ok w0 := by
  intro ρ h1 _ h3
  simp only [wrongO, List.any_eq_true] at h
  obtain ⟨f, hm, hw⟩ := h
  exact absurd (h3 f hm) (wrongF_ok hw (h1.trans hI))
variable {P : Program} {I : Interp}
/-- a contract whose run leaves nothing to be shown but where a premise is wrong. -/
def chkOne (F : Nat → List U → U) (C : Ctx) (f i : Nat) (c : Ctr) (t : SV × H) : Bool :=
  match runOne C f i c t with
  | some ob => ob.all (wrongO F)
  | none => false
theorem CtrOk.chk {C : Ctx} (hC : CtxOk P I C) {f i : Nat} (hft : (C.ft i).isSome = true) {c : Ctr} {t : SV × H} {F : Nat → List U → U} (e : chkOne F C f i c t = true) (hI : I.f = F)
    (hts : t ∈ c.outs) : CtrOk P I i c := by
  unfold chkOne at e
  split at e
  · rename_i ob h
    refine CtrOk.one hC hft h hts fun w o ho => wrongO_ok (F := F) ?_ hI
    simp only [List.all_eq_true] at e
    exact e o ho
  · cases e
end Go.SE
end
/-! Obligations without those that others bear; outcomes brought to the first template that fits. -/
noncomputable section
set_option linter.unusedSimpArgs false
set_option linter.unusedVariables false
namespace Go.SE
def oprem (fs gs : List Fact) : Bool := allB (fun f => gs.any (feq f)) fs
/-- the first one bears the second. -/
def obears (a b : Obl) : Bool := bif feq a.goal b.goal then oprem a.fs b.fs else false
theorem obears_ok {w0 : W0} {a b : Obl} (h : obears a b = true) (ha : a.ok w0) : b.ok w0 := by
  unfold obears at h
  cases hg : feq a.goal b.goal with
  | false => simp [hg] at h
  | true =>
    simp only [hg, cond_true, oprem, allB_iff, List.any_eq_true] at h
    have e := feq_eq _ _ hg
    intro ρ h1 h2 h3
    rw [← e]
    refine ha ρ h1 h2 fun f hf => ?_
    obtain ⟨g, hg1, hg2⟩ := h f hf
    rw [feq_eq _ _ hg2]; exact h3 g hg1
def thin (acc : List Obl) : List Obl → List Obl
  | [] => acc.reverse
  | o :: r => bif acc.any (fun a => obears a o) then thin acc r else thin (o :: acc) r
theorem thin_ok {w0 : W0} : ∀ {l acc : List Obl}, (∀ o ∈ thin acc l, o.ok w0) → (∀ o ∈ acc, o.ok w0) ∧ ∀ o ∈ l, o.ok w0
  | [], acc, h => ⟨fun o ho => h o (by simpa [thin] using ho), by simp⟩
  | o :: r, acc, h => by
    simp only [thin] at h
    cases hb : acc.any (fun a => obears a o) with
    | true =>
      simp only [hb, cond_true] at h
      obtain ⟨h1, h2⟩ := thin_ok h
      refine ⟨h1, fun x hx => ?_⟩
      simp only [List.mem_cons] at hx
      rcases hx with rfl | hx
      · simp only [List.any_eq_true] at hb
        obtain ⟨a, ha, hb⟩ := hb
        exact obears_ok hb (h1 a ha)
      · exact h2 x hx
    | false =>
      simp only [hb, cond_false] at h
      obtain ⟨h1, h2⟩ := thin_ok h
      refine ⟨fun x hx => h1 x (List.mem_cons_of_mem _ hx), fun x hx => ?_⟩
      simp only [List.mem_cons] at hx
      rcases hx with rfl | hx
      · exact h1 _ List.mem_cons_self
      · exact h2 x hx
def dull2 : Fact → Bool
  | .x (.o .le (.v _) (.n 9223372036854775807)) => true
  | .x (.u (.f 999) _) => true
  | _ => false
def slim1 (ob : List Obl) : List Obl := ob.map fun o => ⟨filB (fun f => !dull2 f) o.fs, o.goal⟩
theorem slim1_ok {w0 : W0} {ob : List Obl} (h : ∀ o ∈ slim1 ob, o.ok w0) : ∀ o ∈ ob, o.ok w0 := by
  intro o ho ρ h1 h2 h3
  refine h _ (List.mem_map_of_mem ho) ρ h1 h2 fun f hf => h3 f ?_
  simp only [filB_eq, List.mem_filter] at hf
  exact hf.1
/-- premises that are dull, and goals that others bear, left out. -/
def slim2 (ob : List Obl) : List Obl := thin [] (slim1 ob)
theorem slim2_ok {w0 : W0} {ob : List Obl} (h : ∀ o ∈ slim2 ob, o.ok w0) : ∀ o ∈ ob, o.ok w0 := slim1_ok (thin_ok h).2
variable {P : Program} {I : Interp}
def mergeOne (k : Bool) (h0 : H) (r t : SV × H) : Option (List Obl) :=
  let T : St := ⟨[(0, t.1)], 1, t.2⟩
  let S : St := ⟨[(0, r.1)], 1, r.2⟩
  let g := infer h0 T S []
  (chkH h0 t.2 r.2 g).bind fun F => (svP t.2.nb g.fb t.1 r.1).bind fun L => bif prVs t.2.nv L then (bif k && L.any (fun q => clash (q.1.sub g.f) q.2) then none else some (fob r.2.fs (F ++ prF g.f L))) else none
def mergeFirst (k : Bool) (h0 : H) (r : SV × H) : List (SV × H) → Option (List Obl × (SV × H))
  | [] => none
  | t :: ts => match mergeOne k h0 r t with
    | some ob => some (ob, t)
    | none => mergeFirst k h0 r ts
theorem mergeFirst_mem {k : Bool} {h0 : H} {r : SV × H} : ∀ {ts : List (SV × H)} {ob : List Obl} {t : SV × H}, mergeFirst k h0 r ts = some (ob, t) → t ∈ ts ∧ mergeOne k h0 r t = some ob
  | [], _, _, h => by cases h
  | a :: ts, ob, t, h => by
    simp only [mergeFirst] at h
    split at h
    · rename_i ob' h1
      simp only [Option.some.injEq, Prod.mk.injEq] at h
      obtain ⟨rfl, rfl⟩ := h
      exact ⟨List.mem_cons_self, h1⟩
    · obtain ⟨h1, h2⟩ := mergeFirst_mem h
      exact ⟨List.mem_cons_of_mem _ h1, h2⟩
def mergeBoth (h0 : H) (r : SV × H) (ts : List (SV × H)) : Option (List Obl × (SV × H)) := match mergeFirst true h0 r ts with
  | some q => some q
  | none => mergeFirst false h0 r ts
theorem mergeBoth_mem {h0 : H} {r : SV × H} {ts : List (SV × H)} {ob : List Obl} {t : SV × H} (h : mergeBoth h0 r ts = some (ob, t)) : t ∈ ts ∧ ∃ k, mergeOne k h0 r t = some ob := by
  unfold mergeBoth at h
  split at h
  · rename_i q hq
    cases h
    obtain ⟨h1, h2⟩ := mergeFirst_mem hq
    exact ⟨h1, true, h2⟩
  · obtain ⟨h1, h2⟩ := mergeFirst_mem h
    exact ⟨h1, false, h2⟩
def mergeAny (h0 : H) (ts : List (SV × H)) : List (SV × H) → Option (List Obl)
  | [] => some []
  | r :: rs => (mergeBoth h0 r ts).bind fun q => (mergeAny h0 ts rs).map fun ob => q.1 ++ ob
theorem mergeAny_mem {h0 : H} {ts : List (SV × H)} : ∀ {rs : List (SV × H)} {ob : List Obl}, mergeAny h0 ts rs = some ob → ∀ r ∈ rs, ∃ t ∈ ts, ∃ ob' k, mergeOne k h0 r t = some ob' ∧ ∀ o ∈ ob', o ∈ ob
  | [], _, _, r, hr => by cases hr
  | a :: rs, ob, h, r, hr => by
    simp only [mergeAny] at h
    obtain ⟨⟨o1, t⟩, h1, h⟩ := bind1 h
    rw [Option.map_eq_some_iff] at h
    obtain ⟨o2, h2, rfl⟩ := h
    simp only [List.mem_cons] at hr
    rcases hr with rfl | hr
    · obtain ⟨h3, k, h4⟩ := mergeBoth_mem h1
      exact ⟨t, h3, o1, k, h4, fun o ho => List.mem_append_left _ ho⟩
    · obtain ⟨t', h3, ob', k, h4, h5⟩ := mergeAny_mem h2 r hr
      exact ⟨t', h3, ob', k, h4, fun o ho => List.mem_append_right _ (h5 o ho)⟩
theorem mergeAny_ok {i : Nat} {args : List SV} {h : H} {ob ob' : List Obl} {rs ts : List (SV × H)} (hc : CallOk P I i args h ob rs) (hm : mergeAny h ts rs = some ob') :
    CallOk P I i args h (ob ++ ob') ts := by
  intro w0 hw hob B ρ σ w vs hr hv
  refine (hc w0 hw (fun o ho => hob o (List.mem_append_left _ ho)) B ρ σ w vs hr hv).mono ?_
  rintro e w' ⟨q, hq, ρ', σ', v, rfl, hext, hle, hrep, hval⟩
  obtain ⟨t, ht, ob1, k, h1, h4⟩ := mergeAny_mem hm q hq
  unfold mergeOne at h1
  simp only at h1
  obtain ⟨F, h1, h2⟩ := bind1 h1
  obtain ⟨L, h2, h3⟩ := bind1 h2
  obtain ⟨h3, h5⟩ := bndo h3
  have h6 : fob q.2.fs (F ++ prF (infer h ⟨[(0, t.1)], 1, t.2⟩ ⟨[(0, q.1)], 1, q.2⟩ []).f L) = ob1 := by
    revert h5
    cases (k && L.any _) with
    | true => intro h; cases h
    | false => intro h; exact Option.some.inj h
  have hfs := fob_ok (w0 := w0) (fs := q.2.fs) (fun o ho => hob o (List.mem_append_right _ (h4 o (h6 ▸ ho)))) ρ' hrep.now.ip hrep.now.facts
  obtain ⟨k1, k2, k3, k4⟩ := gen_core h1 hrep.now fun c hc => hfs c (List.mem_append_left _ hc)
  refine ⟨t, ht, _, _, v, rfl, hext.trans k1 (fun _ h => h) (fun _ h => h), k2, k3, fun ρ2 σ2 he => ?_⟩
  have e1 := k4 t.1 q.1 L h2 h3 (fun c hc => hfs c (List.mem_append_right _ hc)) ρ2 σ2 he
  have e2 := hval _ _ (Ext.refl _ _ _)
  simp only [List.map_cons, List.map_nil, List.cons.injEq, and_true] at e2 ⊢
  rw [e1, e2]
/-- a contract by the executor, its outcomes brought to the contract's own, the first that fits. -/
def runAny (C : Ctx) (f i : Nat) (c : Ctr) : Option (List Obl) :=
  (execCall C f i c.args c.h).bind fun q => (mergeAny c.h c.outs q.2).map fun ob => slim2 (q.1 ++ ob)
theorem CtrOk.any {C : Ctx} (hC : CtxOk P I C) {f i : Nat} (hft : (C.ft i).isSome = true) {c : Ctr} {ob : List Obl} (e : runAny C f i c = some ob)
    (hob : ∀ w, ∀ o ∈ ob, o.ok ⟨w, I⟩) : CtrOk P I i c := by
  unfold runAny at e
  obtain ⟨q, h1, e⟩ := bind1 e
  rw [Option.map_eq_some_iff] at e
  obtain ⟨ob', h2, rfl⟩ := e
  cases hf : C.ft i with
  | none => simp [hf] at hft
  | some fn => exact .of (mergeAny_ok (execCall_ok hC hf h1) h2) fun w => slim2_ok (hob w)
/-- a contract out of another. -/
def reAny (c c' : Ctr) : Option (List Obl) := (useK c c'.args c'.h).bind fun q => (mergeAny c'.h c'.outs q.2).map fun ob => slim2 (q.1 ++ ob)
theorem CtrOk.reAny {i : Nat} {c c' : Ctr} (hc : CtrOk P I i c) {ob : List Obl} (e : reAny c c' = some ob) (hob : ∀ w, ∀ o ∈ ob, o.ok ⟨w, I⟩) : CtrOk P I i c' := by
  unfold SE.reAny at e
  obtain ⟨q, h1, e⟩ := bind1 e
  rw [Option.map_eq_some_iff] at e
  obtain ⟨ob', h2, rfl⟩ := e
  exact .of (mergeAny_ok (use_ok hc h1) h2) fun w => slim2_ok (hob w)
/-- contracts whose runs leave nothing to be shown. -/
def allAny (C : Ctx) (f i : Nat) (l : List Ctr) : Bool := allB (fun c => match runAny C f i c with | some [] => true | _ => false) l
theorem allAny_ok {C : Ctx} (hC : CtxOk P I C) {f i : Nat} (hft : (C.ft i).isSome = true) {l : List Ctr} (e : allAny C f i l = true) : ∀ c ∈ l, CtrOk P I i c := by
  intro c hc
  unfold allAny at e
  rw [allB_iff] at e
  have := e c hc
  split at this
  · rename_i h
    exact CtrOk.any hC hft h (by simp)
  · cases this
end Go.SE
end
/-! FbDelays: what the timers' lives are. -/
noncomputable section
set_option linter.unusedSimpArgs false
set_option linter.unusedVariables false
namespace Go.SE
def numU (l : List Int) : U := .l (l.map U.i)
/-- what a timer tells and keeps behind so many steps. -/
def life (z : List Int → List Int → Int → Int → Int → Int → List Int) (l now : List U) : Nat → List Int × Int × Int × Int
  | 0 => ([], 0, 0, 0)
  | i + 1 =>
    let s := life z l now i
    let r := z ((l.getD i default).asL.map U.asI) s.1 s.2.1 s.2.2.1 s.2.2.2 (now.getD i default).asI
    ([r.getD 0 0, r.getD 1 0], r.getD 2 0, r.getD 3 0, r.getD 4 0)
def lifeV (s : List Int × Int × Int × Int) : List Int := [s.1.getD 0 0, s.1.getD 1 0, s.2.1, s.2.2.1, s.2.2.2]
abbrev Zf := List Int → List Int → Int → Int → Int → Int → List Int
def lifeF (z : Zf) (l : List U) : U := numU (lifeV (life z (l.getD 0 default).asL (l.getD 1 default).asL (l.getD 2 default).asI.toNat))
def allF (z : Zf) (l : List U) : U := .l ((List.range (l.getD 2 default).asI.toNat).map fun j => numU (life z (l.getD 0 default).asL (l.getD 1 default).asL (j + 1)).1)
def onR (o : U) (p : Int) (j : Nat) : U := numU [if (o.asL.getD j default).asB then 1 else 0, w64 (p.tmod 40)]
def onF (l : List U) : U := .l ((List.range (l.getD 2 default).asI.toNat).map fun j => onR (l.getD 0 default) (l.getD 1 default).asI j)
def timeZ (s : U) : Nat → Int
  | 0 => 0
  | i + 1 => w64 (timeZ s i + w64 ((s.asL.getD i default).asI.tmod 16))
def nowF (l : List U) : U := .l ((List.range (l.getD 1 default).asI.toNat).map fun j => .i (timeZ (l.getD 0 default) (j + 1)))
def fbD (k : Nat) (u : List U) : U :=
  match k with
  | 31 => lifeF tonZ (arg1 u)
  | 32 => lifeF tofZ (arg1 u)
  | 33 => lifeF tpZ (arg1 u)
  | 35 => allF tonZ (arg1 u)
  | 36 => allF tofZ (arg1 u)
  | 37 => allF tpZ (arg1 u)
  | 41 => onF (arg1 u)
  | 42 => nowF (arg1 u)
  | 43 => .i (timeZ ((arg1 u).getD 0 default) ((arg1 u).getD 1 default).asI.toNat)
  | k => fbF k u
theorem fbD_1 (u : List U) : fbD 1 u = fbF 1 u := by simp only [fbD]
theorem fbD_2 (u : List U) : fbD 2 u = fbF 2 u := by simp only [fbD]
theorem fbD_3 (u : List U) : fbD 3 u = fbF 3 u := by simp only [fbD]
theorem fbD_999 (u : List U) : fbD 999 u = fbF 999 u := by simp only [fbD]
theorem fld_numU (ρ : Env) (j : Nat) (l : List Int) : O1.den ρ (.fld j) (numU l) = .i (l.getD j 0) := by
  simp only [den_fld, numU, asL_l, List.getD_eq_getElem?_getD, List.getElem?_map]
  generalize l[j]? = o
  cases o <;> rfl
theorem life_out (z : Zf) (l now : List U) {n : Nat} (h : 1 ≤ n) : (life z l now n).1 = [(lifeV (life z l now n)).getD 0 0, (lifeV (life z l now n)).getD 1 0] := by
  obtain ⟨m, rfl⟩ : ∃ m, n = m + 1 := ⟨n - 1, by omega⟩
  simp only [life, lifeV, List.getD_cons_zero, List.getD_cons_succ]
theorem lifeV_succ (z : Zf) (l now : List U) (n j : Nat) (hj : j < 5) : (lifeV (life z l now (n + 1))).getD j 0 =
    (z ((l.getD n default).asL.map U.asI) (life z l now n).1 (life z l now n).2.1 (life z l now n).2.2.1 (life z l now n).2.2.2 (now.getD n default).asI).getD j 0 := by
  simp only [life, lifeV]
  rcases j with _ | _ | _ | _ | _ | j
  · rfl
  · rfl
  · rfl
  · rfl
  · rfl
  · omega
/-- the next step's outcome, as the program reckons it. -/
theorem life_next (z : Zf) (l now : List U) {n : Nat} (h : 1 ≤ n) (j : Nat) (hj : j < 5) : (lifeV (life z l now (n + 1))).getD j 0 =
    (z ((l.getD n default).asL.map U.asI) [(lifeV (life z l now n)).getD 0 0, (lifeV (life z l now n)).getD 1 0] ((lifeV (life z l now n)).getD 2 0) ((lifeV (life z l now n)).getD 3 0) ((lifeV (life z l now n)).getD 4 0) (now.getD n default).asI).getD j 0 := by
  rw [lifeV_succ z l now n j hj, ← life_out z l now h]
  rfl
theorem life_first (z : Zf) (l now : List U) (j : Nat) (hj : j < 5) : (lifeV (life z l now 1)).getD j 0 = (z ((l.getD 0 default).asL.map U.asI) [] 0 0 0 (now.getD 0 default).asI).getD j 0 := lifeV_succ z l now 0 j hj
theorem len_numU (l : List Int) : (numU l).asL.length = l.length := by simp [numU]
theorem range_snoc {α : Type} (f : Nat → α) (n : Nat) : (List.range (n + 1)).map f = (List.range n).map f ++ [f n] := by rw [List.range_succ, List.map_append]; rfl
end Go.SE
end
/-! FbDelays: the timers against what the document says of them. -/
noncomputable section
set_option linter.unusedSimpArgs false
set_option linter.unusedVariables false
namespace Go.SE
structure Rs where
  s : Int
  g : Int
  q : Int
  w : Bool
def refStep (p : Int) (is : Bool) (now : Int) (r : Rs) : Rs :=
  let q1 := if 0 ≤ r.q ∧ p ≤ now - r.q then (if is && !r.w then -2 else -1) else r.q
  ⟨if is && !r.w then now else r.s, if !is && r.w then now else r.g, if q1 = -1 ∧ (is && !r.w) = true then now else q1, is⟩
abbrev Ks := List Int × Int × Int × Int
def nextK (r : List Int) : Ks := ([r.getD 0 0, r.getD 1 0], r.getD 2 0, r.getD 3 0, r.getD 4 0)
theorem w32_small {n : Int} (h1 : -100000 ≤ n) (h2 : n ≤ 100000) : w32 n = n := w32_id (by omega) (by omega)
theorem shown_small {p now k : Int} (hp : 0 ≤ p ∧ p ≤ 39) (hn : 0 ≤ now ∧ now ≤ 2000) (hk : 0 ≤ k ∧ k ≤ now) : shown p now k = min (now - k) p := by
  unfold shown
  rw [w32_small (n := now) (by omega) (by omega), w32_small (n := now - k) (by omega) (by omega)]
  omega
section
variable {p prev now v : Int} {r : Rs} {st : Ks}
def tonI (p prev : Int) (r : Rs) (st : Ks) : Prop := st.2.1 = tr r.w ∧ (r.w = true → st.2.2.1 = r.s ∧ 0 ≤ r.s ∧ r.s ≤ prev ∧ (st.2.2.2 = 0 ∨ (st.2.2.2 = 1 ∧ p ≤ prev - r.s)))
theorem ton_step (hp : 0 ≤ p ∧ p ≤ 39) (hn : 0 ≤ now ∧ now ≤ 2000) (hpr : prev ≤ now) (hv : v = 0 ∨ v = 1) (h : tonI p prev r st) :
    ((tonZ [v, p] st.1 st.2.1 st.2.2.1 st.2.2.2 now).getD 0 0 = 1 ↔ v = 1 ∧ p ≤ now - (refStep p (decide (v = 1)) now r).s) ∧
    tonI p now (refStep p (decide (v = 1)) now r) (nextK (tonZ [v, p] st.1 st.2.1 st.2.2.1 st.2.2.2 now)) := by
  obtain ⟨s, g, q, w⟩ := r
  obtain ⟨o, k0, k1, k2⟩ := st
  obtain ⟨h1, h2⟩ := h
  simp only at h1 h2
  subst h1
  have e1 := w32_small (n := p) (by omega) (by omega)
  have e2 := w32_small (n := now) (by omega) (by omega)
  have e3 : max p 0 = p := by omega
  have e4 : w32 1 = 1 := by decide
  have e5 : w32 0 = 0 := by decide
  rcases hv with rfl | rfl
  · simp [tonZ, nextK, refStep, tonI, nz, tr]
  · cases w with
    | false =>
      have e6 := shown_small hp hn ⟨hn.1, Int.le_refl now⟩
      simp only [tonZ, nextK, refStep, tonI, nz, tr, e1, e2, e3, e4, e5, e6, List.getD_cons_zero, List.getD_cons_succ]
      by_cases h0 : p ≤ min (now - now) p
      · simp [h0, e5, e6]; omega
      · simp [h0, e5, e6]; omega
    | true =>
      obtain ⟨rfl, h3, h4, h5⟩ := h2 rfl
      have e6 := shown_small hp hn (k := k1) ⟨h3, by omega⟩
      have e7 := w32_small (n := k1) (by omega) (by omega)
      rcases h5 with rfl | ⟨rfl, h5⟩
      · simp only [tonZ, nextK, refStep, tonI, nz, tr, e1, e2, e3, e4, e5, e6, e7, List.getD_cons_zero, List.getD_cons_succ]
        by_cases h0 : p ≤ min (now - k1) p
        · simp [h0, e4, e5, e6, e7]; omega
        · simp [h0, e4, e5, e6, e7]; omega
      · simp [tonZ, nextK, refStep, tonI, nz, tr, e1, e2, e3, e4, e5, e6, e7]; omega
def tofI (p prev : Int) (r : Rs) (st : Ks) : Prop := st.2.1 = tr r.w ∧ (r.w = false → (r.g = -1 ∧ st.2.2.2 = 0) ∨ (0 ≤ r.g ∧ r.g ≤ prev ∧ st.2.2.1 = r.g ∧ (st.2.2.2 = 1 ∨ (st.2.2.2 = 0 ∧ p ≤ prev - r.g))))
theorem tof_step (hp : 0 ≤ p ∧ p ≤ 39) (hn : 0 ≤ now ∧ now ≤ 2000) (hpr : prev ≤ now) (hv : v = 0 ∨ v = 1) (h : tofI p prev r st) :
    ((tofZ [v, p] st.1 st.2.1 st.2.2.1 st.2.2.2 now).getD 0 0 = 1 ↔ v = 1 ∨ (0 ≤ (refStep p (decide (v = 1)) now r).g ∧ now - (refStep p (decide (v = 1)) now r).g < p)) ∧
    tofI p now (refStep p (decide (v = 1)) now r) (nextK (tofZ [v, p] st.1 st.2.1 st.2.2.1 st.2.2.2 now)) := by
  obtain ⟨s, g, q, w⟩ := r
  obtain ⟨o, k0, k1, k2⟩ := st
  obtain ⟨h1, h2⟩ := h
  simp only at h1 h2
  subst h1
  have e1 := w32_small (n := p) (by omega) (by omega)
  have e2 := w32_small (n := now) (by omega) (by omega)
  have e3 : max p 0 = p := by omega
  have e4 : w32 1 = 1 := by decide
  have e5 : w32 0 = 0 := by decide
  rcases hv with rfl | rfl
  · cases w with
    | false =>
      rcases h2 rfl with ⟨rfl, rfl⟩ | ⟨h3, h4, rfl, h5⟩
      · simp [tofZ, nextK, refStep, tofI, nz, tr, e5]
      · have e6 := shown_small hp hn (k := k1) ⟨h3, by omega⟩
        have e7 := w32_small (n := k1) (by omega) (by omega)
        rcases h5 with rfl | ⟨rfl, h5⟩
        · simp only [tofZ, nextK, refStep, tofI, nz, tr, e1, e2, e3, e4, e5, e6, e7, List.getD_cons_zero, List.getD_cons_succ]
          by_cases h0 : min (now - k1) p < p
          · simp [h0, e4, e5, e6, e7]; omega
          · simp [h0, e4, e5, e6, e7]; omega
        · simp [tofZ, nextK, refStep, tofI, nz, tr, e1, e2, e3, e4, e5, e6, e7]; omega
    | true =>
      have e6 := shown_small hp hn ⟨hn.1, Int.le_refl now⟩
      simp only [tofZ, nextK, refStep, tofI, nz, tr, e1, e2, e3, e4, e5, e6, List.getD_cons_zero, List.getD_cons_succ]
      by_cases h0 : min (now - now) p < p
      · simp [h0, e4, e5, e6]; omega
      · simp [h0, e4, e5, e6]; omega
  · simp [tofZ, nextK, refStep, tofI, nz, tr]
def tpI (p prev : Int) (r : Rs) (st : Ks) : Prop := st.2.1 = tr r.w ∧ (r.q = -1 ∧ (st.2.2.2 = 0 ∨ st.2.2.2 = 2) ∨ (0 ≤ r.q ∧ r.q ≤ prev ∧ ((st.2.2.2 = 1 ∧ st.2.2.1 = r.q) ∨ (p = 0 ∧ (st.2.2.2 = 0 ∨ st.2.2.2 = 2)))))
theorem tp_step (hp : 0 ≤ p ∧ p ≤ 39) (hn : 0 ≤ now ∧ now ≤ 2000) (hpr : prev ≤ now) (hv : v = 0 ∨ v = 1) (h : tpI p prev r st) (h2' : (refStep p (decide (v = 1)) now r).q ≠ -2) :
    (0 ≤ (refStep p (decide (v = 1)) now r).q ∧ now - (refStep p (decide (v = 1)) now r).q < p → (tpZ [v, p] st.1 st.2.1 st.2.2.1 st.2.2.2 now).getD 0 0 = 1) ∧
    ((refStep p (decide (v = 1)) now r).q = -1 → (tpZ [v, p] st.1 st.2.1 st.2.2.1 st.2.2.2 now).getD 0 0 = 0) ∧
    tpI p now (refStep p (decide (v = 1)) now r) (nextK (tpZ [v, p] st.1 st.2.1 st.2.2.1 st.2.2.2 now)) := by
  obtain ⟨s, g, q, w⟩ := r
  obtain ⟨o, k0, k1, k2⟩ := st
  obtain ⟨h1, h2⟩ := h
  simp only at h1 h2
  subst h1
  have e1 := w32_small (n := p) (by omega) (by omega)
  have e2 := w32_small (n := now) (by omega) (by omega)
  have e3 : max p 0 = p := by omega
  have e4 : w32 1 = 1 := by decide
  have e5 : w32 0 = 0 := by decide
  have e8 : w32 2 = 2 := by decide
  have e0 : shown p now now = 0 := by rw [shown_small hp hn ⟨hn.1, Int.le_refl now⟩]; omega
  rcases h2 with ⟨rfl, h3⟩ | ⟨h3, h4, h5⟩
  · have hk2 : w32 k2 = k2 := by rcases h3 with rfl | rfl <;> assumption
    have hne : ¬ k2 = 1 := by omega
    rcases hv with rfl | rfl
    · simp [tpZ, nextK, refStep, tpI, nz, tr, hk2, hne]
    · cases w with
      | true =>
        simp [tpZ, nextK, refStep, tpI, nz, tr, hk2, hne, e4]
        omega
      | false =>
        simp only [tpZ, nextK, refStep, tpI, nz, tr, hk2, e1, e2, e3, e4, e5, e0, List.getD_cons_zero, List.getD_cons_succ]
        by_cases h0 : 0 < p
        · simp [hne, h0, e0, e4, e5]; omega
        · simp [hne, h0, e0, e4, e5]; omega
  · have hq1 : ¬ q = -1 := by omega
    rcases h5 with ⟨rfl, rfl⟩ | ⟨rfl, h5⟩
    · have e6 := shown_small hp hn (k := k1) ⟨h3, by omega⟩
      have e7 := w32_small (n := k1) (by omega) (by omega)
      have e9 : (min (now - k1) p < p) ↔ ¬ p ≤ now - k1 := by omega
      by_cases hx : p ≤ now - k1
      · rcases hv with rfl | rfl
        · simp [tpZ, nextK, refStep, tpI, nz, tr, e1, e2, e3, e4, e5, e6, e7, hx, h3, e9]
        · cases w with
          | true => simp [tpZ, nextK, refStep, tpI, nz, tr, e1, e2, e3, e4, e5, e6, e7, hx, h3, e9]
          | false => simp [refStep, hx, h3] at h2'
      · rcases hv with rfl | rfl
        · simp [tpZ, nextK, refStep, tpI, nz, tr, e1, e2, e3, e4, e5, e6, e7, hx, h3, e9, hq1]; omega
        · cases w <;> (simp [tpZ, nextK, refStep, tpI, nz, tr, e1, e2, e3, e4, e5, e6, e7, hx, h3, e9, hq1]; omega)
    · have hk2 : w32 k2 = k2 := by rcases h5 with rfl | rfl <;> assumption
      have hne : ¬ k2 = 1 := by omega
      have hx : q ≤ now := by omega
      have hx' : (0 : Int) ≤ now - q := by omega
      rcases hv with rfl | rfl
      · simp [tpZ, nextK, refStep, tpI, nz, tr, hk2, hne, hx, h3]
      · cases w with
        | true => simp [tpZ, nextK, refStep, tpI, nz, tr, hk2, hne, hx, h3, e4]; omega
        | false => simp [refStep, hx, hx', h3] at h2'
end
end Go.SE
namespace Go.SE
/-- what holds of the loop of FbDelays. -/
structure DelIn (L N : List U) (n : Nat) (p : Int) : Prop where
  lenL : L.length = n
  lenN : N.length = n
  row : ∀ i, i < n → ∃ v, (v = 0 ∨ v = 1) ∧ L.getD i default = numU [v, p]
  p0 : 0 ≤ p ∧ p ≤ 39
  now0 : ∀ i, i < n → N.getD i default = .i (N.getD i default).asI ∧ 0 ≤ (N.getD i default).asI ∧ (N.getD i default).asI ≤ 2000
  mono : ∀ i, i + 1 < n → (N.getD i default).asI ≤ (N.getD (i + 1) default).asI
def onB (L : List U) (i : Nat) : Bool := decide (((L.getD i default).asL.getD 0 default).asI = 1)
def refSt (L N : List U) (p : Int) : Nat → Rs
  | 0 => ⟨-1, -1, -1, false⟩
  | i + 1 => refStep p (onB L i) (N.getD i default).asI (refSt L N p i)
def prevN (N : List U) : Nat → Int
  | 0 => 0
  | i + 1 => (N.getD i default).asI
theorem life_nextK (z : Zf) (l now : List U) (n : Nat) : life z l now (n + 1) = nextK (z ((l.getD n default).asL.map U.asI) (life z l now n).1 (life z l now n).2.1 (life z l now n).2.2.1 (life z l now n).2.2.2 (now.getD n default).asI) := rfl
theorem del_along {L N : List U} {n : Nat} {p : Int} (h : DelIn L N n p) : ∀ i, i ≤ n → (∀ j, j ≤ i → (refSt L N p j).q ≠ -2) →
    tonI p (prevN N i) (refSt L N p i) (life tonZ L N i) ∧ tofI p (prevN N i) (refSt L N p i) (life tofZ L N i) ∧ tpI p (prevN N i) (refSt L N p i) (life tpZ L N i)
  | 0, _, _ => by simp [refSt, life, tonI, tofI, tpI, tr]
  | i + 1, hi, hq => by
    obtain ⟨h1, h2, h3⟩ := del_along h i (by omega) fun j hj => hq j (by omega)
    obtain ⟨v, hv, hr⟩ := h.row i (by omega)
    obtain ⟨_, n1, n2⟩ := h.now0 i (by omega)
    have hpr : prevN N i ≤ (N.getD i default).asI := by
      cases i with
      | zero => exact n1
      | succ i => exact h.mono i (by omega)
    have hm : (L.getD i default).asL.map U.asI = [v, p] := by rw [hr]; rfl
    have ho : onB L i = decide (v = 1) := by unfold onB; rw [hr]; rfl
    have hz := hq (i + 1) (Nat.le_refl _)
    simp only [refSt, ho] at hz ⊢
    rw [life_nextK, life_nextK, life_nextK, hm]
    exact ⟨(ton_step h.p0 ⟨n1, n2⟩ hpr hv h1).2, (tof_step h.p0 ⟨n1, n2⟩ hpr hv h2).2, (tp_step h.p0 ⟨n1, n2⟩ hpr hv h3 hz).2.2⟩
structure DelPred (L N A B C n p i s g q w : U) : Prop where
  inp : DelIn L.asL N.asL n.asI.toNat p.asI
  nn : 0 ≤ n.asI ∧ n.asI ≤ 80
  ii : 0 ≤ i.asI ∧ i.asI ≤ n.asI
  a : A = allF tonZ [L, N, n]
  b : B = allF tofZ [L, N, n]
  c : C = allF tpZ [L, N, n]
  st : refSt L.asL N.asL p.asI i.asI.toNat = ⟨s.asI, g.asI, q.asI, w.asB⟩
  no2 : ∀ j, j ≤ i.asI.toNat → (refSt L.asL N.asL p.asI j).q ≠ -2
  su : s = .i s.asI
  gu : g = .i g.asI
  qu : q = .i q.asI
  wu : w = .b w.asB
theorem allF_get (z : Zf) (L N n : U) {i : Nat} (hi : i < n.asI.toNat) : (allF z [L, N, n]).asL.getD i default = numU (life z L.asL N.asL (i + 1)).1 := by
  simp [allF, List.getD_eq_getElem?_getD, hi]
theorem allF_len (z : Zf) (L N n : U) : (allF z [L, N, n]).asL.length = n.asI.toNat := by simp [allF]
theorem numU_len (z : Zf) (l now : List U) (i : Nat) : (numU (life z l now (i + 1)).1).asL.length = 2 := by simp [numU, life]
theorem numU_get0 (z : Zf) (l now : List U) (i : Nat) : ((numU (life z l now (i + 1)).1).asL.getD 0 default).asI = (z ((l.getD i default).asL.map U.asI) (life z l now i).1 (life z l now i).2.1 (life z l now i).2.2.1 (life z l now i).2.2.2 (now.getD i default).asI).getD 0 0 := by
  simp [numU, life]
/-- one round: what the outputs are, beside what the document says. -/
theorem del_round {L N A B C n p i s g q w : U} (h : DelPred L N A B C n p i s g q w) (hi : i.asI < n.asI) :
    L.asL.length = n.asI.toNat ∧ N.asL.length = n.asI.toNat ∧ A.asL.length = n.asI.toNat ∧ B.asL.length = n.asI.toNat ∧ C.asL.length = n.asI.toNat ∧
    (L.asL.getD i.asI.toNat default).asL.length = 2 ∧ (A.asL.getD i.asI.toNat default).asL.length = 2 ∧ (B.asL.getD i.asI.toNat default).asL.length = 2 ∧ (C.asL.getD i.asI.toNat default).asL.length = 2 ∧
    N.asL.getD i.asI.toNat default = .i (N.asL.getD i.asI.toNat default).asI ∧ 0 ≤ (N.asL.getD i.asI.toNat default).asI ∧ (N.asL.getD i.asI.toNat default).asI ≤ 2000 ∧
    (∃ v, (v = 0 ∨ v = 1) ∧ ((L.asL.getD i.asI.toNat default).asL.getD 0 default).asI = v ∧
      (((A.asL.getD i.asI.toNat default).asL.getD 0 default).asI = 1 ↔ v = 1 ∧ p.asI ≤ (N.asL.getD i.asI.toNat default).asI - (refStep p.asI (decide (v = 1)) (N.asL.getD i.asI.toNat default).asI ⟨s.asI, g.asI, q.asI, w.asB⟩).s) ∧
      (((B.asL.getD i.asI.toNat default).asL.getD 0 default).asI = 1 ↔ v = 1 ∨ (0 ≤ (refStep p.asI (decide (v = 1)) (N.asL.getD i.asI.toNat default).asI ⟨s.asI, g.asI, q.asI, w.asB⟩).g ∧ (N.asL.getD i.asI.toNat default).asI - (refStep p.asI (decide (v = 1)) (N.asL.getD i.asI.toNat default).asI ⟨s.asI, g.asI, q.asI, w.asB⟩).g < p.asI)) ∧
      ((refStep p.asI (decide (v = 1)) (N.asL.getD i.asI.toNat default).asI ⟨s.asI, g.asI, q.asI, w.asB⟩).q ≠ -2 →
        (0 ≤ (refStep p.asI (decide (v = 1)) (N.asL.getD i.asI.toNat default).asI ⟨s.asI, g.asI, q.asI, w.asB⟩).q ∧ (N.asL.getD i.asI.toNat default).asI - (refStep p.asI (decide (v = 1)) (N.asL.getD i.asI.toNat default).asI ⟨s.asI, g.asI, q.asI, w.asB⟩).q < p.asI → ((C.asL.getD i.asI.toNat default).asL.getD 0 default).asI = 1) ∧
        ((refStep p.asI (decide (v = 1)) (N.asL.getD i.asI.toNat default).asI ⟨s.asI, g.asI, q.asI, w.asB⟩).q = -1 → ((C.asL.getD i.asI.toNat default).asL.getD 0 default).asI = 0))) ∧
    (0 ≤ s.asI ∨ s.asI = -1) ∧ s.asI ≤ 2000 ∧ (0 ≤ g.asI ∨ g.asI = -1) ∧ g.asI ≤ 2000 ∧ (0 ≤ q.asI ∨ q.asI = -1) ∧ q.asI ≤ 2000 := by
  have hlt : i.asI.toNat < n.asI.toNat := by have := h.ii; omega
  obtain ⟨h1, h2, h3⟩ := del_along h.inp i.asI.toNat (by omega) h.no2
  obtain ⟨v, hv, hr⟩ := h.inp.row _ hlt
  obtain ⟨n0, n1, n2⟩ := h.inp.now0 _ hlt
  have hpr : prevN N.asL i.asI.toNat ≤ (N.asL.getD i.asI.toNat default).asI := by
    cases hi' : i.asI.toNat with
    | zero => rw [hi'] at n1; exact n1
    | succ k => rw [hi'] at hlt; exact h.inp.mono k hlt
  have hm : (L.asL.getD i.asI.toNat default).asL.map U.asI = [v, p.asI] := by rw [hr]; rfl
  rw [h.st] at h1 h2 h3
  have g1 := (ton_step h.inp.p0 ⟨n1, n2⟩ hpr hv h1).1
  have g2 := (tof_step h.inp.p0 ⟨n1, n2⟩ hpr hv h2).1
  have rng : ∀ j, j ≤ n.asI.toNat → ((0 ≤ (refSt L.asL N.asL p.asI j).s ∨ (refSt L.asL N.asL p.asI j).s = -1) ∧ (refSt L.asL N.asL p.asI j).s ≤ 2000) ∧ ((0 ≤ (refSt L.asL N.asL p.asI j).g ∨ (refSt L.asL N.asL p.asI j).g = -1) ∧ (refSt L.asL N.asL p.asI j).g ≤ 2000) := by
    intro j
    induction j with
    | zero => intro _; simp [refSt]
    | succ j ih =>
      intro hj
      have ih := ih (by omega)
      obtain ⟨_, m1, m2⟩ := h.inp.now0 j (by omega)
      simp only [refSt, refStep]
      refine ⟨?_, ?_⟩
      · split
        · exact ⟨.inl m1, m2⟩
        · exact ih.1
      · split
        · exact ⟨.inl m1, m2⟩
        · exact ih.2
  have rr := rng _ (Nat.le_of_lt hlt)
  rw [h.st] at rr
  refine ⟨h.inp.lenL, h.inp.lenN, by rw [h.a, allF_len], by rw [h.b, allF_len], by rw [h.c, allF_len], by rw [hr]; rfl, by rw [h.a, allF_get _ _ _ _ hlt, numU_len], by rw [h.b, allF_get _ _ _ _ hlt, numU_len], by rw [h.c, allF_get _ _ _ _ hlt, numU_len], n0, n1, n2,
    ⟨v, hv, by rw [hr]; rfl, ?_, ?_, fun hz => ?_⟩, rr.1.1, rr.1.2, rr.2.1, rr.2.2, ?_, ?_⟩
  · rw [h.a, allF_get _ _ _ _ hlt, numU_get0, hm]; exact g1
  · rw [h.b, allF_get _ _ _ _ hlt, numU_get0, hm]; exact g2
  · have g3 := tp_step h.inp.p0 ⟨n1, n2⟩ hpr hv h3 hz
    rw [h.c, allF_get _ _ _ _ hlt, numU_get0, hm]; exact ⟨g3.1, g3.2.1⟩
  · rcases h3.2 with ⟨h4, _⟩ | ⟨h4, _⟩
    · exact .inr h4
    · exact .inl h4
  · have h4 : prevN N.asL i.asI.toNat ≤ 2000 := by omega
    rcases h3.2 with ⟨h5, _⟩ | ⟨_, h5, _⟩
    · simp only at h5; omega
    · simp only at h5; omega
/-- the next round's. -/
theorem del_next {L N A B C n p i s g q w s' g' q' w' i' : U} (h : DelPred L N A B C n p i s g q w) (hi : i.asI < n.asI) (hi' : i'.asI = i.asI + 1)
    (hs : refStep p.asI (onB L.asL i.asI.toNat) (N.asL.getD i.asI.toNat default).asI ⟨s.asI, g.asI, q.asI, w.asB⟩ = ⟨s'.asI, g'.asI, q'.asI, w'.asB⟩) (hq : q'.asI ≠ -2) (su : s' = .i s'.asI) (gu : g' = .i g'.asI) (qu : q' = .i q'.asI) (wu : w' = .b w'.asB) :
    DelPred L N A B C n p i' s' g' q' w' := by
  have e : i'.asI.toNat = i.asI.toNat + 1 := by have := h.ii; omega
  have hst : refSt L.asL N.asL p.asI (i.asI.toNat + 1) = ⟨s'.asI, g'.asI, q'.asI, w'.asB⟩ := by rw [refSt, h.st, hs]
  refine ⟨h.inp, h.nn, by have := h.ii; omega, h.a, h.b, h.c, by rw [e, hst], fun j hj => ?_, su, gu, qu, wu⟩
  rw [e] at hj
  rcases Nat.lt_or_ge j (i.asI.toNat + 1) with h1 | h1
  · exact h.no2 j (by omega)
  · rw [show j = i.asI.toNat + 1 by omega, hst]; exact hq
def pD (k : Nat) (l : List U) : Prop :=
  match k, l with
  | 21, [x] => ∀ j, j < x.asL.length → (x.asL.getD j default).asL.length = 2
  | 22, [s, p] => (∀ j : Nat, 0 ≤ (s.asL.getD j default).asI ∧ (s.asL.getD j default).asI ≤ 255) ∧ 0 ≤ p.asI ∧ p.asI ≤ 255
  | 24, [L, N, A, B, C, n, p, i, s, g, q, w] => DelPred L N A B C n p i s g q w
  | 25, [a, b, c, d, e] => 0 ≤ a.asI ∧ w32 a.asI = a.asI ∧ w32 b.asI = b.asI ∧ w32 c.asI = c.asI ∧ w32 d.asI = d.asI ∧ w32 e.asI = e.asI ∧ a = .i a.asI ∧ b = .i b.asI ∧ c = .i c.asI ∧ d = .i d.asI ∧ e = .i e.asI
  | _, _ => True
def IDl : Interp := ⟨fbD, pD⟩
end Go.SE
end
/-! rungref1.Wrap. -/
noncomputable section
set_option linter.unusedSimpArgs false
set_option linter.unusedVariables false
namespace Go.SE
theorem and_mask16 (x : Int) : bitsZ .and .i64 x 65535 = x % 65536 := by
  have h1 : (BitVec.ofInt IntKind.i64.bits x &&& BitVec.ofInt IntKind.i64.bits 65535).toNat = (x % 18446744073709551616).toNat % 65536 := by
    rw [BitVec.toNat_and]
    have e1 : (BitVec.ofInt IntKind.i64.bits x).toNat = (x % 18446744073709551616).toNat := by rw [BitVec.toNat_ofInt]; rfl
    have e2 : (BitVec.ofInt IntKind.i64.bits 65535).toNat = 2 ^ 16 - 1 := by decide
    rw [e1, e2, Nat.and_two_pow_sub_one_eq_mod]
  show IntKind.i64.wrap ((BitVec.ofInt IntKind.i64.bits x &&& BitVec.ofInt IntKind.i64.bits 65535).toNat : Int) = _
  rw [h1, w64_def, w64_eq]
  split <;> omega
theorem and_mask32 (x : Int) : bitsZ .and .i64 x 4294967295 = x % 4294967296 := by
  have h1 : (BitVec.ofInt IntKind.i64.bits x &&& BitVec.ofInt IntKind.i64.bits 4294967295).toNat = (x % 18446744073709551616).toNat % 4294967296 := by
    rw [BitVec.toNat_and]
    have e1 : (BitVec.ofInt IntKind.i64.bits x).toNat = (x % 18446744073709551616).toNat := by rw [BitVec.toNat_ofInt]; rfl
    have e2 : (BitVec.ofInt IntKind.i64.bits 4294967295).toNat = 2 ^ 32 - 1 := by decide
    rw [e1, e2, Nat.and_two_pow_sub_one_eq_mod]
  show IntKind.i64.wrap ((BitVec.ofInt IntKind.i64.bits x &&& BitVec.ofInt IntKind.i64.bits 4294967295).toNat : Int) = _
  rw [h1, w64_def, w64_eq]
  split <;> omega
theorem den_bit (ρ : Env) (op : BinOp) (k : IntKind) (a b : U) : O2.den ρ (.bit op k) a b = .i (bitsZ op k a.asI b.asI) := rfl
end Go.SE
namespace Go.Proofs.YtkphkjffcpkhjaaDoor
open Go Go.SE
set_option maxRecDepth 1000000
def rwrap3_ob : List Obl := [⟨[(.x (.o .lt (.n 32767) (.o (.bit .and .i64) (.v 0) (.n 65535))))], (.q (.u (.wrap .i16) (.v 0)) (.u (.wrap .i64) (.o .sub (.o (.bit .and .i64) (.v 0) (.n 65535)) (.n 65536))))⟩,
  ⟨[(.x (.u .not (.o .lt (.n 32767) (.o (.bit .and .i64) (.v 0) (.n 65535)))))], (.q (.u (.wrap .i16) (.v 0)) (.o (.bit .and .i64) (.v 0) (.n 65535)))⟩]
theorem rwrap3_run : runOne cA 100 15 (rwrapK 3) (((rwrapK 3)).outs.headD (.nilp, ((rwrapK 3)).h)) = some rwrap3_ob := by kernel_rfl
def rwrap4_ob : List Obl := [⟨[(.x (.o .lt (.n 2147483647) (.o (.bit .and .i64) (.v 0) (.n 4294967295))))], (.q (.u (.wrap .i32) (.v 0)) (.u (.wrap .i64) (.o .sub (.o (.bit .and .i64) (.v 0) (.n 4294967295)) (.n 4294967296))))⟩,
  ⟨[(.x (.u .not (.o .lt (.n 2147483647) (.o (.bit .and .i64) (.v 0) (.n 4294967295)))))], (.q (.u (.wrap .i32) (.v 0)) (.o (.bit .and .i64) (.v 0) (.n 4294967295)))⟩]
theorem rwrap4_run : runOne cA 100 15 (rwrapK 4) (((rwrapK 4)).outs.headD (.nilp, ((rwrapK 4)).h)) = some rwrap4_ob := by kernel_rfl
def rwrap11_ob : List Obl := [⟨[(.x (.o .lt (.n 2147483647) (.o (.bit .and .i64) (.v 0) (.n 4294967295))))], (.q (.u (.wrap .i32) (.v 0)) (.u (.wrap .i64) (.o .sub (.o (.bit .and .i64) (.v 0) (.n 4294967295)) (.n 4294967296))))⟩,
  ⟨[(.x (.u .not (.o .lt (.n 2147483647) (.o (.bit .and .i64) (.v 0) (.n 4294967295)))))], (.q (.u (.wrap .i32) (.v 0)) (.o (.bit .and .i64) (.v 0) (.n 4294967295)))⟩]
theorem rwrap11_run : runOne cA 100 15 (rwrapK 11) (((rwrapK 11)).outs.headD (.nilp, ((rwrapK 11)).h)) = some rwrap11_ob := by kernel_rfl
theorem rwrap_ok (I : Interp) : ∀ c ∈ wrap1Ks, CtrOk Tryd.prog I 15 c := by
  have h0 : CtxOk Tryd.prog I cA := ctx_ok (by intro q hq; cases hq)
  have s16 : ∀ w, ∀ o ∈ rwrap3_ob, o.ok ⟨w, I⟩ := by
    intro w
    unfold rwrap3_ob
    simp only [List.forall_mem_cons, List.not_mem_nil, false_implies, implies_true, and_true]
    refine ⟨fun ρ _ _ hfs => ?_, fun ρ _ _ hfs => ?_⟩
    all_goals
      simp only [List.forall_mem_cons, List.not_mem_nil, false_implies, implies_true, and_true, Fact.ok, X.den, den_not, den_lt, den_bit, asB_b, asI_i, Bool.not_eq_true', ilt_iff, ilt_f, and_mask16] at hfs
      simp only [Fact.ok, X.den, den_wrap, den_sub, den_bit, asI_i, and_mask16, w16_def, w64_def]
      refine congrArg U.i ?_
      rw [w16_eq]
      first | (rw [w64_id (by omega) (by omega)]; split <;> omega) | (split <;> omega)
  have s32 : ∀ w, ∀ o ∈ rwrap4_ob, o.ok ⟨w, I⟩ := by
    intro w
    unfold rwrap4_ob
    simp only [List.forall_mem_cons, List.not_mem_nil, false_implies, implies_true, and_true]
    refine ⟨fun ρ _ _ hfs => ?_, fun ρ _ _ hfs => ?_⟩
    all_goals
      simp only [List.forall_mem_cons, List.not_mem_nil, false_implies, implies_true, and_true, Fact.ok, X.den, den_not, den_lt, den_bit, asB_b, asI_i, Bool.not_eq_true', ilt_iff, ilt_f, and_mask32] at hfs
      simp only [Fact.ok, X.den, den_wrap, den_sub, den_bit, asI_i, and_mask32, w32_def, w64_def]
      refine congrArg U.i ?_
      rw [w32_eq]
      first | (rw [w64_id (by omega) (by omega)]; split <;> omega) | (split <;> omega)
  simp only [wrap1Ks, List.forall_mem_cons, List.not_mem_nil, false_implies, implies_true, and_true]
  exact ⟨.one h0 (by kernel_rfl) rwrap3_run List.mem_cons_self s16, .one h0 (by kernel_rfl) rwrap4_run List.mem_cons_self s32, .one h0 (by kernel_rfl) rwrap11_run List.mem_cons_self s32⟩
end Go.Proofs.YtkphkjffcpkhjaaDoor
end
/-! fb.Step of TON: the runs (printed by gen/steps.py). -/
noncomputable section
set_option linter.unusedSimpArgs false
set_option linter.unusedVariables false
namespace Go.Proofs.YtkphkjffcpkhjaaDoor
open Go Go.SE
set_option maxRecDepth 1000000
def ton_ff_ob : List Obl := [⟨[(.x (.u .not (.o .lt (.n 0) (.u .len (.v 0)))))], (.q (.c .mset (.u .asm .nil) (.s [73, 78]) (.u .b2i (.u .not (.o .eq (.o .get (.v 0) (.n 0)) (.n 0))))) (.u .asm .nil))⟩,
  ⟨[(.x (.u .not (.o .lt (.n 1) (.u .len (.v 0)))))], (.q (.c .mset (.c .mset (.u .asm .nil) (.s [73, 78]) (.u .b2i (.u .not (.o .eq (.o .get (.v 0) (.n 0)) (.n 0))))) (.s [80, 84]) (.u (.wrap .i32) (.o .get (.v 0) (.n 1)))) (.c .mset (.u .asm .nil) (.s [73, 78]) (.u .b2i (.u .not (.o .eq (.o .get (.v 0) (.n 0)) (.n 0))))))⟩,
  ⟨[(.x (.u .not (.o .lt (.n 0) (.u .len (.v 1)))))], (.q (.c .mset (.c .mset (.c .mset (.u .asm .nil) (.s [73, 78]) (.u .b2i (.u .not (.o .eq (.o .get (.v 0) (.n 0)) (.n 0))))) (.s [80, 84]) (.u (.wrap .i32) (.o .get (.v 0) (.n 1)))) (.s [81]) (.u .b2i (.u .not (.o .eq (.o .get (.v 1) (.n 0)) (.n 0))))) (.c .mset (.c .mset (.u .asm .nil) (.s [73, 78]) (.u .b2i (.u .not (.o .eq (.o .get (.v 0) (.n 0)) (.n 0))))) (.s [80, 84]) (.u (.wrap .i32) (.o .get (.v 0) (.n 1)))))⟩,
  ⟨[(.x (.u .not (.o .lt (.n 1) (.u .len (.v 1)))))], (.q (.c .mset (.c .mset (.c .mset (.c .mset (.u .asm .nil) (.s [69, 84]) (.u (.wrap .i32) (.o .get (.v 1) (.n 1)))) (.s [73, 78]) (.u .b2i (.u .not (.o .eq (.o .get (.v 0) (.n 0)) (.n 0))))) (.s [80, 84]) (.u (.wrap .i32) (.o .get (.v 0) (.n 1)))) (.s [81]) (.u .b2i (.u .not (.o .eq (.o .get (.v 1) (.n 0)) (.n 0))))) (.c .mset (.c .mset (.c .mset (.u .asm .nil) (.s [73, 78]) (.u .b2i (.u .not (.o .eq (.o .get (.v 0) (.n 0)) (.n 0))))) (.s [80, 84]) (.u (.wrap .i32) (.o .get (.v 0) (.n 1)))) (.s [81]) (.u .b2i (.u .not (.o .eq (.o .get (.v 1) (.n 0)) (.n 0))))))⟩,
  ⟨[(.x (.o .eq (.u (.wrap .i32) (.v 3)) (.n 0))), (.x (.u .not (.o .eq (.o .get (.v 0) (.n 0)) (.n 0))))], (.q (.u (.fld 0) (.u (.f 1) (.o .cons (.v 0) (.o .cons (.v 1) (.o .cons (.v 3) (.o .cons (.v 4) (.o .cons (.v 5) (.o .cons (.v 7) .nil)))))))) (.u .b2i (.u .not (.o .eq (.u .b2i (.o .le (.o .max (.u (.wrap .i32) (.o .get (.v 0) (.n 1))) (.n 0)) (.o .min (.o .max (.u (.wrap .i32) (.u (.wrap .i64) (.o .sub (.u (.wrap .i32) (.v 7)) (.u (.wrap .i32) (.v 7))))) (.n 0)) (.o .max (.u (.wrap .i32) (.o .get (.v 0) (.n 1))) (.n 0))))) (.n 0)))))⟩,
  ⟨[(.x (.o .eq (.u (.wrap .i32) (.v 3)) (.n 0))), (.x (.u .not (.o .eq (.o .get (.v 0) (.n 0)) (.n 0))))], (.q (.u (.fld 1) (.u (.f 1) (.o .cons (.v 0) (.o .cons (.v 1) (.o .cons (.v 3) (.o .cons (.v 4) (.o .cons (.v 5) (.o .cons (.v 7) .nil)))))))) (.u (.wrap .i32) (.o .min (.o .max (.u (.wrap .i32) (.u (.wrap .i64) (.o .sub (.u (.wrap .i32) (.v 7)) (.u (.wrap .i32) (.v 7))))) (.n 0)) (.o .max (.u (.wrap .i32) (.o .get (.v 0) (.n 1))) (.n 0)))))⟩,
  ⟨[(.x (.o .eq (.u (.wrap .i32) (.v 3)) (.n 0))), (.x (.u .not (.o .eq (.o .get (.v 0) (.n 0)) (.n 0))))], (.q (.u (.fld 2) (.u (.f 1) (.o .cons (.v 0) (.o .cons (.v 1) (.o .cons (.v 3) (.o .cons (.v 4) (.o .cons (.v 5) (.o .cons (.v 7) .nil)))))))) (.u .b2i (.u .not (.o .eq (.o .get (.v 0) (.n 0)) (.n 0)))))⟩,
  ⟨[(.x (.o .eq (.u (.wrap .i32) (.v 3)) (.n 0))), (.x (.u .not (.o .eq (.o .get (.v 0) (.n 0)) (.n 0))))], (.q (.u (.fld 3) (.u (.f 1) (.o .cons (.v 0) (.o .cons (.v 1) (.o .cons (.v 3) (.o .cons (.v 4) (.o .cons (.v 5) (.o .cons (.v 7) .nil)))))))) (.u (.wrap .i32) (.v 7)))⟩,
  ⟨[(.x (.o .eq (.u (.wrap .i32) (.v 3)) (.n 0))), (.x (.u .not (.o .eq (.o .get (.v 0) (.n 0)) (.n 0))))], (.q (.u (.fld 4) (.u (.f 1) (.o .cons (.v 0) (.o .cons (.v 1) (.o .cons (.v 3) (.o .cons (.v 4) (.o .cons (.v 5) (.o .cons (.v 7) .nil)))))))) (.u .b2i (.o .le (.o .max (.u (.wrap .i32) (.o .get (.v 0) (.n 1))) (.n 0)) (.o .min (.o .max (.u (.wrap .i32) (.u (.wrap .i64) (.o .sub (.u (.wrap .i32) (.v 7)) (.u (.wrap .i32) (.v 7))))) (.n 0)) (.o .max (.u (.wrap .i32) (.o .get (.v 0) (.n 1))) (.n 0))))))⟩,
  ⟨[(.x (.o .eq (.u (.wrap .i32) (.v 5)) (.n 1))), (.x (.u .not (.o .eq (.u (.wrap .i32) (.v 3)) (.n 0)))), (.x (.u .not (.o .eq (.o .get (.v 0) (.n 0)) (.n 0))))], (.q (.u (.fld 0) (.u (.f 1) (.o .cons (.v 0) (.o .cons (.v 1) (.o .cons (.v 3) (.o .cons (.v 4) (.o .cons (.v 5) (.o .cons (.v 7) .nil)))))))) (.n 1))⟩,
  ⟨[(.x (.o .eq (.u (.wrap .i32) (.v 5)) (.n 1))), (.x (.u .not (.o .eq (.u (.wrap .i32) (.v 3)) (.n 0)))), (.x (.u .not (.o .eq (.o .get (.v 0) (.n 0)) (.n 0))))], (.q (.u (.fld 1) (.u (.f 1) (.o .cons (.v 0) (.o .cons (.v 1) (.o .cons (.v 3) (.o .cons (.v 4) (.o .cons (.v 5) (.o .cons (.v 7) .nil)))))))) (.u (.wrap .i32) (.o .max (.u (.wrap .i32) (.o .get (.v 0) (.n 1))) (.n 0))))⟩,
  ⟨[(.x (.o .eq (.u (.wrap .i32) (.v 5)) (.n 1))), (.x (.u .not (.o .eq (.u (.wrap .i32) (.v 3)) (.n 0)))), (.x (.u .not (.o .eq (.o .get (.v 0) (.n 0)) (.n 0))))], (.q (.u (.fld 2) (.u (.f 1) (.o .cons (.v 0) (.o .cons (.v 1) (.o .cons (.v 3) (.o .cons (.v 4) (.o .cons (.v 5) (.o .cons (.v 7) .nil)))))))) (.u .b2i (.u .not (.o .eq (.o .get (.v 0) (.n 0)) (.n 0)))))⟩,
  ⟨[(.x (.o .eq (.u (.wrap .i32) (.v 5)) (.n 1))), (.x (.u .not (.o .eq (.u (.wrap .i32) (.v 3)) (.n 0)))), (.x (.u .not (.o .eq (.o .get (.v 0) (.n 0)) (.n 0))))], (.q (.u (.fld 3) (.u (.f 1) (.o .cons (.v 0) (.o .cons (.v 1) (.o .cons (.v 3) (.o .cons (.v 4) (.o .cons (.v 5) (.o .cons (.v 7) .nil)))))))) (.u (.wrap .i32) (.v 4)))⟩,
  ⟨[(.x (.o .eq (.u (.wrap .i32) (.v 5)) (.n 1))), (.x (.u .not (.o .eq (.u (.wrap .i32) (.v 3)) (.n 0)))), (.x (.u .not (.o .eq (.o .get (.v 0) (.n 0)) (.n 0))))], (.q (.u (.fld 4) (.u (.f 1) (.o .cons (.v 0) (.o .cons (.v 1) (.o .cons (.v 3) (.o .cons (.v 4) (.o .cons (.v 5) (.o .cons (.v 7) .nil)))))))) (.u (.wrap .i32) (.v 5)))⟩,
  ⟨[(.x (.u .not (.o .eq (.u (.wrap .i32) (.v 5)) (.n 1)))), (.x (.u .not (.o .eq (.u (.wrap .i32) (.v 3)) (.n 0)))), (.x (.u .not (.o .eq (.o .get (.v 0) (.n 0)) (.n 0))))], (.q (.u (.fld 0) (.u (.f 1) (.o .cons (.v 0) (.o .cons (.v 1) (.o .cons (.v 3) (.o .cons (.v 4) (.o .cons (.v 5) (.o .cons (.v 7) .nil)))))))) (.u .b2i (.u .not (.o .eq (.u .b2i (.o .le (.o .max (.u (.wrap .i32) (.o .get (.v 0) (.n 1))) (.n 0)) (.o .min (.o .max (.u (.wrap .i32) (.u (.wrap .i64) (.o .sub (.u (.wrap .i32) (.v 7)) (.u (.wrap .i32) (.v 4))))) (.n 0)) (.o .max (.u (.wrap .i32) (.o .get (.v 0) (.n 1))) (.n 0))))) (.n 0)))))⟩,
  ⟨[(.x (.u .not (.o .eq (.u (.wrap .i32) (.v 5)) (.n 1)))), (.x (.u .not (.o .eq (.u (.wrap .i32) (.v 3)) (.n 0)))), (.x (.u .not (.o .eq (.o .get (.v 0) (.n 0)) (.n 0))))], (.q (.u (.fld 1) (.u (.f 1) (.o .cons (.v 0) (.o .cons (.v 1) (.o .cons (.v 3) (.o .cons (.v 4) (.o .cons (.v 5) (.o .cons (.v 7) .nil)))))))) (.u (.wrap .i32) (.o .min (.o .max (.u (.wrap .i32) (.u (.wrap .i64) (.o .sub (.u (.wrap .i32) (.v 7)) (.u (.wrap .i32) (.v 4))))) (.n 0)) (.o .max (.u (.wrap .i32) (.o .get (.v 0) (.n 1))) (.n 0)))))⟩,
  ⟨[(.x (.u .not (.o .eq (.u (.wrap .i32) (.v 5)) (.n 1)))), (.x (.u .not (.o .eq (.u (.wrap .i32) (.v 3)) (.n 0)))), (.x (.u .not (.o .eq (.o .get (.v 0) (.n 0)) (.n 0))))], (.q (.u (.fld 2) (.u (.f 1) (.o .cons (.v 0) (.o .cons (.v 1) (.o .cons (.v 3) (.o .cons (.v 4) (.o .cons (.v 5) (.o .cons (.v 7) .nil)))))))) (.u .b2i (.u .not (.o .eq (.o .get (.v 0) (.n 0)) (.n 0)))))⟩,
  ⟨[(.x (.u .not (.o .eq (.u (.wrap .i32) (.v 5)) (.n 1)))), (.x (.u .not (.o .eq (.u (.wrap .i32) (.v 3)) (.n 0)))), (.x (.u .not (.o .eq (.o .get (.v 0) (.n 0)) (.n 0))))], (.q (.u (.fld 3) (.u (.f 1) (.o .cons (.v 0) (.o .cons (.v 1) (.o .cons (.v 3) (.o .cons (.v 4) (.o .cons (.v 5) (.o .cons (.v 7) .nil)))))))) (.u (.wrap .i32) (.v 4)))⟩,
  ⟨[(.x (.u .not (.o .eq (.u (.wrap .i32) (.v 5)) (.n 1)))), (.x (.u .not (.o .eq (.u (.wrap .i32) (.v 3)) (.n 0)))), (.x (.u .not (.o .eq (.o .get (.v 0) (.n 0)) (.n 0))))], (.q (.u (.fld 4) (.u (.f 1) (.o .cons (.v 0) (.o .cons (.v 1) (.o .cons (.v 3) (.o .cons (.v 4) (.o .cons (.v 5) (.o .cons (.v 7) .nil)))))))) (.u .b2i (.o .le (.o .max (.u (.wrap .i32) (.o .get (.v 0) (.n 1))) (.n 0)) (.o .min (.o .max (.u (.wrap .i32) (.u (.wrap .i64) (.o .sub (.u (.wrap .i32) (.v 7)) (.u (.wrap .i32) (.v 4))))) (.n 0)) (.o .max (.u (.wrap .i32) (.o .get (.v 0) (.n 1))) (.n 0))))))⟩,
  ⟨[(.x (.o .eq (.o .get (.v 0) (.n 0)) (.n 0)))], (.q (.u (.fld 0) (.u (.f 1) (.o .cons (.v 0) (.o .cons (.v 1) (.o .cons (.v 3) (.o .cons (.v 4) (.o .cons (.v 5) (.o .cons (.v 7) .nil)))))))) (.n 0))⟩,
  ⟨[(.x (.o .eq (.o .get (.v 0) (.n 0)) (.n 0)))], (.q (.u (.fld 1) (.u (.f 1) (.o .cons (.v 0) (.o .cons (.v 1) (.o .cons (.v 3) (.o .cons (.v 4) (.o .cons (.v 5) (.o .cons (.v 7) .nil)))))))) (.n 0))⟩,
  ⟨[(.x (.o .eq (.o .get (.v 0) (.n 0)) (.n 0)))], (.q (.u (.fld 2) (.u (.f 1) (.o .cons (.v 0) (.o .cons (.v 1) (.o .cons (.v 3) (.o .cons (.v 4) (.o .cons (.v 5) (.o .cons (.v 7) .nil)))))))) (.u .b2i (.u .not (.o .eq (.o .get (.v 0) (.n 0)) (.n 0)))))⟩,
  ⟨[(.x (.o .eq (.o .get (.v 0) (.n 0)) (.n 0)))], (.q (.u (.fld 3) (.u (.f 1) (.o .cons (.v 0) (.o .cons (.v 1) (.o .cons (.v 3) (.o .cons (.v 4) (.o .cons (.v 5) (.o .cons (.v 7) .nil)))))))) (.u (.wrap .i32) (.v 4)))⟩,
  ⟨[(.x (.o .eq (.o .get (.v 0) (.n 0)) (.n 0)))], (.q (.u (.fld 4) (.u (.f 1) (.o .cons (.v 0) (.o .cons (.v 1) (.o .cons (.v 3) (.o .cons (.v 4) (.o .cons (.v 5) (.o .cons (.v 7) .nil)))))))) (.n 0))⟩]
theorem ton_ff_run : runOne cS 100 16 (stepK sTON 1 2 false false) (((stepK sTON 1 2 false false)).outs.headD (.nilp, ((stepK sTON 1 2 false false)).h)) = some ton_ff_ob := by kernel_rfl
theorem ton_ff_all {I : Interp} (hI : ∀ u, I.f 1 u = fbF 1 u) (w : World) : ∀ o ∈ ton_ff_ob, o.ok ⟨w, I⟩ := by
  unfold ton_ff_ob
  simp only [List.forall_mem_cons, List.not_mem_nil, false_implies, implies_true, and_true]
  refine ⟨?_, ?_, ?_, ?_, ?_, ?_, ?_, ?_, ?_, ?_, ?_, ?_, ?_, ?_, ?_, ?_, ?_, ?_, ?_, ?_, ?_, ?_, ?_, ?_⟩
  · intro ρ hf _ hfs
    have hF : ∀ u, ρ.f 1 u = fbF 1 u := fun u => by rw [hf]; exact hI u
    simp only [List.forall_mem_cons, List.not_mem_nil, false_implies, implies_true, and_true, Fact.ok, X.den, den_not, den_b2i, den_wrap, den_get, den_lt, den_le, den_eq, den_min, den_max, den_add, den_sub, den_len, den_cons, den_mset, asB_b, asI_i, asL_l, asS_s, Bool.not_eq_true', ilt_iff, ile_iff, ieq_iff, ilt_f, ile_f, ieq_f, w32_def, w16_def, w64_def] at hfs
    simp only [Fact.ok, X.den, den_not, den_b2i, den_wrap, den_get, den_lt, den_le, den_eq, den_min, den_max, den_add, den_sub, den_len, den_cons, den_mset, den_asm, den_f1, hF, asB_b, asI_i, asL_l, asS_s, asM_m, fbF, arg1, fld_step, List.getD_cons_zero, List.getD_cons_succ, getD_asI, Bool.not_eq_true', ilt_iff, ile_iff, ieq_iff, ilt_f, ile_f, ieq_f, w32_def, w16_def, w64_def, w32_w64]
    clear hF hf
    refine congrArg U.m (funext fun q => ?_)
    simp only [getD_pastI hfs, asI_default, w32_zero, w16_zero, not_true, if_false, k_IN, k_PT, k_Q, k_ET]
    by_cases hq : q = [73, 78]
    · subst hq; rfl
    · simp only [hq, if_false]
  · intro ρ hf _ hfs
    have hF : ∀ u, ρ.f 1 u = fbF 1 u := fun u => by rw [hf]; exact hI u
    simp only [List.forall_mem_cons, List.not_mem_nil, false_implies, implies_true, and_true, Fact.ok, X.den, den_not, den_b2i, den_wrap, den_get, den_lt, den_le, den_eq, den_min, den_max, den_add, den_sub, den_len, den_cons, den_mset, asB_b, asI_i, asL_l, asS_s, Bool.not_eq_true', ilt_iff, ile_iff, ieq_iff, ilt_f, ile_f, ieq_f, w32_def, w16_def, w64_def] at hfs
    simp only [Fact.ok, X.den, den_not, den_b2i, den_wrap, den_get, den_lt, den_le, den_eq, den_min, den_max, den_add, den_sub, den_len, den_cons, den_mset, den_asm, den_f1, hF, asB_b, asI_i, asL_l, asS_s, asM_m, fbF, arg1, fld_step, List.getD_cons_zero, List.getD_cons_succ, getD_asI, Bool.not_eq_true', ilt_iff, ile_iff, ieq_iff, ilt_f, ile_f, ieq_f, w32_def, w16_def, w64_def, w32_w64]
    clear hF hf
    refine congrArg U.m (funext fun q => ?_)
    simp only [getD_pastI hfs, asI_default, w32_zero, w16_zero, not_true, if_false, k_IN, k_PT, k_Q, k_ET]
    by_cases hq : q = [80, 84]
    · subst hq; rfl
    · simp only [hq, if_false]
  · intro ρ hf _ hfs
    have hF : ∀ u, ρ.f 1 u = fbF 1 u := fun u => by rw [hf]; exact hI u
    simp only [List.forall_mem_cons, List.not_mem_nil, false_implies, implies_true, and_true, Fact.ok, X.den, den_not, den_b2i, den_wrap, den_get, den_lt, den_le, den_eq, den_min, den_max, den_add, den_sub, den_len, den_cons, den_mset, asB_b, asI_i, asL_l, asS_s, Bool.not_eq_true', ilt_iff, ile_iff, ieq_iff, ilt_f, ile_f, ieq_f, w32_def, w16_def, w64_def] at hfs
    simp only [Fact.ok, X.den, den_not, den_b2i, den_wrap, den_get, den_lt, den_le, den_eq, den_min, den_max, den_add, den_sub, den_len, den_cons, den_mset, den_asm, den_f1, hF, asB_b, asI_i, asL_l, asS_s, asM_m, fbF, arg1, fld_step, List.getD_cons_zero, List.getD_cons_succ, getD_asI, Bool.not_eq_true', ilt_iff, ile_iff, ieq_iff, ilt_f, ile_f, ieq_f, w32_def, w16_def, w64_def, w32_w64]
    clear hF hf
    refine congrArg U.m (funext fun q => ?_)
    simp only [getD_pastI hfs, asI_default, w32_zero, w16_zero, not_true, if_false, k_IN, k_PT, k_Q, k_ET]
    by_cases hq : q = [81]
    · subst hq; rfl
    · simp only [hq, if_false]
  · intro ρ hf _ hfs
    have hF : ∀ u, ρ.f 1 u = fbF 1 u := fun u => by rw [hf]; exact hI u
    simp only [List.forall_mem_cons, List.not_mem_nil, false_implies, implies_true, and_true, Fact.ok, X.den, den_not, den_b2i, den_wrap, den_get, den_lt, den_le, den_eq, den_min, den_max, den_add, den_sub, den_len, den_cons, den_mset, asB_b, asI_i, asL_l, asS_s, Bool.not_eq_true', ilt_iff, ile_iff, ieq_iff, ilt_f, ile_f, ieq_f, w32_def, w16_def, w64_def] at hfs
    simp only [Fact.ok, X.den, den_not, den_b2i, den_wrap, den_get, den_lt, den_le, den_eq, den_min, den_max, den_add, den_sub, den_len, den_cons, den_mset, den_asm, den_f1, hF, asB_b, asI_i, asL_l, asS_s, asM_m, fbF, arg1, fld_step, List.getD_cons_zero, List.getD_cons_succ, getD_asI, Bool.not_eq_true', ilt_iff, ile_iff, ieq_iff, ilt_f, ile_f, ieq_f, w32_def, w16_def, w64_def, w32_w64]
    clear hF hf
    refine congrArg U.m (funext fun q => ?_)
    simp only [getD_pastI hfs, asI_default, w32_zero, w16_zero, not_true, if_false, k_IN, k_PT, k_Q, k_ET]
    by_cases hq : q = [69, 84]
    · subst hq; rfl
    · simp only [hq, if_false]
  all_goals
    intro ρ hf _ hfs
    have hF : ∀ u, ρ.f 1 u = fbF 1 u := fun u => by rw [hf]; exact hI u
    simp only [List.forall_mem_cons, List.not_mem_nil, false_implies, implies_true, and_true, Fact.ok, X.den, den_not, den_b2i, den_wrap, den_get, den_lt, den_le, den_eq, den_min, den_max, den_add, den_sub, den_len, den_cons, den_mset, asB_b, asI_i, asL_l, asS_s, Bool.not_eq_true', ilt_iff, ile_iff, ieq_iff, ilt_f, ile_f, ieq_f, w32_def, w16_def, w64_def] at hfs
    simp only [Fact.ok, X.den, den_not, den_b2i, den_wrap, den_get, den_lt, den_le, den_eq, den_min, den_max, den_add, den_sub, den_len, den_cons, den_mset, den_asm, den_f1, hF, asB_b, asI_i, asL_l, asS_s, asM_m, fbF, arg1, fld_step, List.getD_cons_zero, List.getD_cons_succ, getD_asI, Bool.not_eq_true', ilt_iff, ile_iff, ieq_iff, ilt_f, ile_f, ieq_f, w32_def, w16_def, w64_def, w32_w64]
    clear hF hf
    refine congrArg U.i ?_
    try simp only [tn0, tn1, tn2, tn3, tn4, w32_w64, Int.sub_self, w32_zero, max00, min0m] at hfs
    simp only [tonZ, nz, ne_eq, getD_asI, tn0, tn1, tn2, tn3, tn4, w64_up, w64_dn, w32_max0, w32_et, w16_inc, w16_dec, w16_w16, w32_w32, Int.sub_self, w32_zero, max00, min0m, w32_et0, shown]
    simp [-List.getD_eq_getElem?_getD, List.getD_cons_zero, List.getD_cons_succ, hfs, tr, shown, asI_default, w16_zero, w32_zero, min0m, max00, w32_et, w32_max0, w32_et0]
    try omega
theorem ton_ff_ok {I : Interp} (hI : ∀ u, I.f 1 u = fbF 1 u) : CtrOk Tryd.prog I 16 (stepK sTON 1 2 false false) := .one (cS_ok I) (by kernel_rfl) ton_ff_run List.mem_cons_self (ton_ff_all hI)
def ton_ft_ob : List Obl := [⟨[(.x (.u .not (.o .lt (.n 0) (.u .len (.v 0)))))], (.q (.c .mset (.u .asm .nil) (.s [73, 78]) (.u .b2i (.u .not (.o .eq (.o .get (.v 0) (.n 0)) (.n 0))))) (.u .asm .nil))⟩,
  ⟨[(.x (.u .not (.o .lt (.n 1) (.u .len (.v 0)))))], (.q (.c .mset (.c .mset (.u .asm .nil) (.s [73, 78]) (.u .b2i (.u .not (.o .eq (.o .get (.v 0) (.n 0)) (.n 0))))) (.s [80, 84]) (.u (.wrap .i32) (.o .get (.v 0) (.n 1)))) (.c .mset (.u .asm .nil) (.s [73, 78]) (.u .b2i (.u .not (.o .eq (.o .get (.v 0) (.n 0)) (.n 0))))))⟩,
  ⟨[(.x (.o .eq (.u (.wrap .i32) (.v 3)) (.n 0))), (.x (.u .not (.o .eq (.o .get (.v 0) (.n 0)) (.n 0))))], (.q (.u (.fld 0) (.u (.f 1) (.o .cons (.v 0) (.o .cons .nil (.o .cons (.v 3) (.o .cons (.v 4) (.o .cons (.v 5) (.o .cons (.v 7) .nil)))))))) (.u .b2i (.u .not (.o .eq (.u .b2i (.o .le (.o .max (.u (.wrap .i32) (.o .get (.v 0) (.n 1))) (.n 0)) (.o .min (.o .max (.u (.wrap .i32) (.u (.wrap .i64) (.o .sub (.u (.wrap .i32) (.v 7)) (.u (.wrap .i32) (.v 7))))) (.n 0)) (.o .max (.u (.wrap .i32) (.o .get (.v 0) (.n 1))) (.n 0))))) (.n 0)))))⟩,
  ⟨[(.x (.o .eq (.u (.wrap .i32) (.v 3)) (.n 0))), (.x (.u .not (.o .eq (.o .get (.v 0) (.n 0)) (.n 0))))], (.q (.u (.fld 1) (.u (.f 1) (.o .cons (.v 0) (.o .cons .nil (.o .cons (.v 3) (.o .cons (.v 4) (.o .cons (.v 5) (.o .cons (.v 7) .nil)))))))) (.u (.wrap .i32) (.o .min (.o .max (.u (.wrap .i32) (.u (.wrap .i64) (.o .sub (.u (.wrap .i32) (.v 7)) (.u (.wrap .i32) (.v 7))))) (.n 0)) (.o .max (.u (.wrap .i32) (.o .get (.v 0) (.n 1))) (.n 0)))))⟩,
  ⟨[(.x (.o .eq (.u (.wrap .i32) (.v 3)) (.n 0))), (.x (.u .not (.o .eq (.o .get (.v 0) (.n 0)) (.n 0))))], (.q (.u (.fld 2) (.u (.f 1) (.o .cons (.v 0) (.o .cons .nil (.o .cons (.v 3) (.o .cons (.v 4) (.o .cons (.v 5) (.o .cons (.v 7) .nil)))))))) (.u .b2i (.u .not (.o .eq (.o .get (.v 0) (.n 0)) (.n 0)))))⟩,
  ⟨[(.x (.o .eq (.u (.wrap .i32) (.v 3)) (.n 0))), (.x (.u .not (.o .eq (.o .get (.v 0) (.n 0)) (.n 0))))], (.q (.u (.fld 3) (.u (.f 1) (.o .cons (.v 0) (.o .cons .nil (.o .cons (.v 3) (.o .cons (.v 4) (.o .cons (.v 5) (.o .cons (.v 7) .nil)))))))) (.u (.wrap .i32) (.v 7)))⟩,
  ⟨[(.x (.o .eq (.u (.wrap .i32) (.v 3)) (.n 0))), (.x (.u .not (.o .eq (.o .get (.v 0) (.n 0)) (.n 0))))], (.q (.u (.fld 4) (.u (.f 1) (.o .cons (.v 0) (.o .cons .nil (.o .cons (.v 3) (.o .cons (.v 4) (.o .cons (.v 5) (.o .cons (.v 7) .nil)))))))) (.u .b2i (.o .le (.o .max (.u (.wrap .i32) (.o .get (.v 0) (.n 1))) (.n 0)) (.o .min (.o .max (.u (.wrap .i32) (.u (.wrap .i64) (.o .sub (.u (.wrap .i32) (.v 7)) (.u (.wrap .i32) (.v 7))))) (.n 0)) (.o .max (.u (.wrap .i32) (.o .get (.v 0) (.n 1))) (.n 0))))))⟩,
  ⟨[(.x (.o .eq (.u (.wrap .i32) (.v 5)) (.n 1))), (.x (.u .not (.o .eq (.u (.wrap .i32) (.v 3)) (.n 0)))), (.x (.u .not (.o .eq (.o .get (.v 0) (.n 0)) (.n 0))))], (.q (.u (.fld 0) (.u (.f 1) (.o .cons (.v 0) (.o .cons .nil (.o .cons (.v 3) (.o .cons (.v 4) (.o .cons (.v 5) (.o .cons (.v 7) .nil)))))))) (.n 1))⟩,
  ⟨[(.x (.o .eq (.u (.wrap .i32) (.v 5)) (.n 1))), (.x (.u .not (.o .eq (.u (.wrap .i32) (.v 3)) (.n 0)))), (.x (.u .not (.o .eq (.o .get (.v 0) (.n 0)) (.n 0))))], (.q (.u (.fld 1) (.u (.f 1) (.o .cons (.v 0) (.o .cons .nil (.o .cons (.v 3) (.o .cons (.v 4) (.o .cons (.v 5) (.o .cons (.v 7) .nil)))))))) (.u (.wrap .i32) (.o .max (.u (.wrap .i32) (.o .get (.v 0) (.n 1))) (.n 0))))⟩,
  ⟨[(.x (.o .eq (.u (.wrap .i32) (.v 5)) (.n 1))), (.x (.u .not (.o .eq (.u (.wrap .i32) (.v 3)) (.n 0)))), (.x (.u .not (.o .eq (.o .get (.v 0) (.n 0)) (.n 0))))], (.q (.u (.fld 2) (.u (.f 1) (.o .cons (.v 0) (.o .cons .nil (.o .cons (.v 3) (.o .cons (.v 4) (.o .cons (.v 5) (.o .cons (.v 7) .nil)))))))) (.u .b2i (.u .not (.o .eq (.o .get (.v 0) (.n 0)) (.n 0)))))⟩,
  ⟨[(.x (.o .eq (.u (.wrap .i32) (.v 5)) (.n 1))), (.x (.u .not (.o .eq (.u (.wrap .i32) (.v 3)) (.n 0)))), (.x (.u .not (.o .eq (.o .get (.v 0) (.n 0)) (.n 0))))], (.q (.u (.fld 3) (.u (.f 1) (.o .cons (.v 0) (.o .cons .nil (.o .cons (.v 3) (.o .cons (.v 4) (.o .cons (.v 5) (.o .cons (.v 7) .nil)))))))) (.u (.wrap .i32) (.v 4)))⟩,
  ⟨[(.x (.o .eq (.u (.wrap .i32) (.v 5)) (.n 1))), (.x (.u .not (.o .eq (.u (.wrap .i32) (.v 3)) (.n 0)))), (.x (.u .not (.o .eq (.o .get (.v 0) (.n 0)) (.n 0))))], (.q (.u (.fld 4) (.u (.f 1) (.o .cons (.v 0) (.o .cons .nil (.o .cons (.v 3) (.o .cons (.v 4) (.o .cons (.v 5) (.o .cons (.v 7) .nil)))))))) (.u (.wrap .i32) (.v 5)))⟩,
  ⟨[(.x (.u .not (.o .eq (.u (.wrap .i32) (.v 5)) (.n 1)))), (.x (.u .not (.o .eq (.u (.wrap .i32) (.v 3)) (.n 0)))), (.x (.u .not (.o .eq (.o .get (.v 0) (.n 0)) (.n 0))))], (.q (.u (.fld 0) (.u (.f 1) (.o .cons (.v 0) (.o .cons .nil (.o .cons (.v 3) (.o .cons (.v 4) (.o .cons (.v 5) (.o .cons (.v 7) .nil)))))))) (.u .b2i (.u .not (.o .eq (.u .b2i (.o .le (.o .max (.u (.wrap .i32) (.o .get (.v 0) (.n 1))) (.n 0)) (.o .min (.o .max (.u (.wrap .i32) (.u (.wrap .i64) (.o .sub (.u (.wrap .i32) (.v 7)) (.u (.wrap .i32) (.v 4))))) (.n 0)) (.o .max (.u (.wrap .i32) (.o .get (.v 0) (.n 1))) (.n 0))))) (.n 0)))))⟩,
  ⟨[(.x (.u .not (.o .eq (.u (.wrap .i32) (.v 5)) (.n 1)))), (.x (.u .not (.o .eq (.u (.wrap .i32) (.v 3)) (.n 0)))), (.x (.u .not (.o .eq (.o .get (.v 0) (.n 0)) (.n 0))))], (.q (.u (.fld 1) (.u (.f 1) (.o .cons (.v 0) (.o .cons .nil (.o .cons (.v 3) (.o .cons (.v 4) (.o .cons (.v 5) (.o .cons (.v 7) .nil)))))))) (.u (.wrap .i32) (.o .min (.o .max (.u (.wrap .i32) (.u (.wrap .i64) (.o .sub (.u (.wrap .i32) (.v 7)) (.u (.wrap .i32) (.v 4))))) (.n 0)) (.o .max (.u (.wrap .i32) (.o .get (.v 0) (.n 1))) (.n 0)))))⟩,
  ⟨[(.x (.u .not (.o .eq (.u (.wrap .i32) (.v 5)) (.n 1)))), (.x (.u .not (.o .eq (.u (.wrap .i32) (.v 3)) (.n 0)))), (.x (.u .not (.o .eq (.o .get (.v 0) (.n 0)) (.n 0))))], (.q (.u (.fld 2) (.u (.f 1) (.o .cons (.v 0) (.o .cons .nil (.o .cons (.v 3) (.o .cons (.v 4) (.o .cons (.v 5) (.o .cons (.v 7) .nil)))))))) (.u .b2i (.u .not (.o .eq (.o .get (.v 0) (.n 0)) (.n 0)))))⟩,
  ⟨[(.x (.u .not (.o .eq (.u (.wrap .i32) (.v 5)) (.n 1)))), (.x (.u .not (.o .eq (.u (.wrap .i32) (.v 3)) (.n 0)))), (.x (.u .not (.o .eq (.o .get (.v 0) (.n 0)) (.n 0))))], (.q (.u (.fld 3) (.u (.f 1) (.o .cons (.v 0) (.o .cons .nil (.o .cons (.v 3) (.o .cons (.v 4) (.o .cons (.v 5) (.o .cons (.v 7) .nil)))))))) (.u (.wrap .i32) (.v 4)))⟩,
  ⟨[(.x (.u .not (.o .eq (.u (.wrap .i32) (.v 5)) (.n 1)))), (.x (.u .not (.o .eq (.u (.wrap .i32) (.v 3)) (.n 0)))), (.x (.u .not (.o .eq (.o .get (.v 0) (.n 0)) (.n 0))))], (.q (.u (.fld 4) (.u (.f 1) (.o .cons (.v 0) (.o .cons .nil (.o .cons (.v 3) (.o .cons (.v 4) (.o .cons (.v 5) (.o .cons (.v 7) .nil)))))))) (.u .b2i (.o .le (.o .max (.u (.wrap .i32) (.o .get (.v 0) (.n 1))) (.n 0)) (.o .min (.o .max (.u (.wrap .i32) (.u (.wrap .i64) (.o .sub (.u (.wrap .i32) (.v 7)) (.u (.wrap .i32) (.v 4))))) (.n 0)) (.o .max (.u (.wrap .i32) (.o .get (.v 0) (.n 1))) (.n 0))))))⟩,
  ⟨[(.x (.o .eq (.o .get (.v 0) (.n 0)) (.n 0)))], (.q (.u (.fld 0) (.u (.f 1) (.o .cons (.v 0) (.o .cons .nil (.o .cons (.v 3) (.o .cons (.v 4) (.o .cons (.v 5) (.o .cons (.v 7) .nil)))))))) (.n 0))⟩,
  ⟨[(.x (.o .eq (.o .get (.v 0) (.n 0)) (.n 0)))], (.q (.u (.fld 1) (.u (.f 1) (.o .cons (.v 0) (.o .cons .nil (.o .cons (.v 3) (.o .cons (.v 4) (.o .cons (.v 5) (.o .cons (.v 7) .nil)))))))) (.n 0))⟩,
  ⟨[(.x (.o .eq (.o .get (.v 0) (.n 0)) (.n 0)))], (.q (.u (.fld 2) (.u (.f 1) (.o .cons (.v 0) (.o .cons .nil (.o .cons (.v 3) (.o .cons (.v 4) (.o .cons (.v 5) (.o .cons (.v 7) .nil)))))))) (.u .b2i (.u .not (.o .eq (.o .get (.v 0) (.n 0)) (.n 0)))))⟩,
  ⟨[(.x (.o .eq (.o .get (.v 0) (.n 0)) (.n 0)))], (.q (.u (.fld 3) (.u (.f 1) (.o .cons (.v 0) (.o .cons .nil (.o .cons (.v 3) (.o .cons (.v 4) (.o .cons (.v 5) (.o .cons (.v 7) .nil)))))))) (.u (.wrap .i32) (.v 4)))⟩,
  ⟨[(.x (.o .eq (.o .get (.v 0) (.n 0)) (.n 0)))], (.q (.u (.fld 4) (.u (.f 1) (.o .cons (.v 0) (.o .cons .nil (.o .cons (.v 3) (.o .cons (.v 4) (.o .cons (.v 5) (.o .cons (.v 7) .nil)))))))) (.n 0))⟩]
theorem ton_ft_run : runOne cS 100 16 (stepK sTON 1 2 false true) (((stepK sTON 1 2 false true)).outs.headD (.nilp, ((stepK sTON 1 2 false true)).h)) = some ton_ft_ob := by kernel_rfl
theorem ton_ft_all {I : Interp} (hI : ∀ u, I.f 1 u = fbF 1 u) (w : World) : ∀ o ∈ ton_ft_ob, o.ok ⟨w, I⟩ := by
  unfold ton_ft_ob
  simp only [List.forall_mem_cons, List.not_mem_nil, false_implies, implies_true, and_true]
  refine ⟨?_, ?_, ?_, ?_, ?_, ?_, ?_, ?_, ?_, ?_, ?_, ?_, ?_, ?_, ?_, ?_, ?_, ?_, ?_, ?_, ?_, ?_⟩
  · intro ρ hf _ hfs
    have hF : ∀ u, ρ.f 1 u = fbF 1 u := fun u => by rw [hf]; exact hI u
    simp only [List.forall_mem_cons, List.not_mem_nil, false_implies, implies_true, and_true, Fact.ok, X.den, den_not, den_b2i, den_wrap, den_get, den_lt, den_le, den_eq, den_min, den_max, den_add, den_sub, den_len, den_cons, den_mset, asB_b, asI_i, asL_l, asS_s, Bool.not_eq_true', ilt_iff, ile_iff, ieq_iff, ilt_f, ile_f, ieq_f, w32_def, w16_def, w64_def] at hfs
    simp only [Fact.ok, X.den, den_not, den_b2i, den_wrap, den_get, den_lt, den_le, den_eq, den_min, den_max, den_add, den_sub, den_len, den_cons, den_mset, den_asm, den_f1, hF, asB_b, asI_i, asL_l, asS_s, asM_m, fbF, arg1, fld_step, List.getD_cons_zero, List.getD_cons_succ, getD_asI, Bool.not_eq_true', ilt_iff, ile_iff, ieq_iff, ilt_f, ile_f, ieq_f, w32_def, w16_def, w64_def, w32_w64]
    clear hF hf
    refine congrArg U.m (funext fun q => ?_)
    simp only [getD_pastI hfs, asI_default, w32_zero, w16_zero, not_true, if_false, k_IN, k_PT, k_Q, k_ET]
    by_cases hq : q = [73, 78]
    · subst hq; rfl
    · simp only [hq, if_false]
  · intro ρ hf _ hfs
    have hF : ∀ u, ρ.f 1 u = fbF 1 u := fun u => by rw [hf]; exact hI u
    simp only [List.forall_mem_cons, List.not_mem_nil, false_implies, implies_true, and_true, Fact.ok, X.den, den_not, den_b2i, den_wrap, den_get, den_lt, den_le, den_eq, den_min, den_max, den_add, den_sub, den_len, den_cons, den_mset, asB_b, asI_i, asL_l, asS_s, Bool.not_eq_true', ilt_iff, ile_iff, ieq_iff, ilt_f, ile_f, ieq_f, w32_def, w16_def, w64_def] at hfs
    simp only [Fact.ok, X.den, den_not, den_b2i, den_wrap, den_get, den_lt, den_le, den_eq, den_min, den_max, den_add, den_sub, den_len, den_cons, den_mset, den_asm, den_f1, hF, asB_b, asI_i, asL_l, asS_s, asM_m, fbF, arg1, fld_step, List.getD_cons_zero, List.getD_cons_succ, getD_asI, Bool.not_eq_true', ilt_iff, ile_iff, ieq_iff, ilt_f, ile_f, ieq_f, w32_def, w16_def, w64_def, w32_w64]
    clear hF hf
    refine congrArg U.m (funext fun q => ?_)
    simp only [getD_pastI hfs, asI_default, w32_zero, w16_zero, not_true, if_false, k_IN, k_PT, k_Q, k_ET]
    by_cases hq : q = [80, 84]
    · subst hq; rfl
    · simp only [hq, if_false]
  all_goals
    intro ρ hf _ hfs
    have hF : ∀ u, ρ.f 1 u = fbF 1 u := fun u => by rw [hf]; exact hI u
    simp only [List.forall_mem_cons, List.not_mem_nil, false_implies, implies_true, and_true, Fact.ok, X.den, den_not, den_b2i, den_wrap, den_get, den_lt, den_le, den_eq, den_min, den_max, den_add, den_sub, den_len, den_cons, den_mset, asB_b, asI_i, asL_l, asS_s, Bool.not_eq_true', ilt_iff, ile_iff, ieq_iff, ilt_f, ile_f, ieq_f, w32_def, w16_def, w64_def] at hfs
    simp only [Fact.ok, X.den, den_not, den_b2i, den_wrap, den_get, den_lt, den_le, den_eq, den_min, den_max, den_add, den_sub, den_len, den_cons, den_mset, den_asm, den_f1, hF, asB_b, asI_i, asL_l, asS_s, asM_m, fbF, arg1, fld_step, List.getD_cons_zero, List.getD_cons_succ, getD_asI, Bool.not_eq_true', ilt_iff, ile_iff, ieq_iff, ilt_f, ile_f, ieq_f, w32_def, w16_def, w64_def, w32_w64]
    clear hF hf
    refine congrArg U.i ?_
    try simp only [tn0, tn1, tn2, tn3, tn4, w32_w64, Int.sub_self, w32_zero, max00, min0m] at hfs
    simp only [tonZ, nz, ne_eq, getD_asI, tn0, tn1, tn2, tn3, tn4, w64_up, w64_dn, w32_max0, w32_et, w16_inc, w16_dec, w16_w16, w32_w32, Int.sub_self, w32_zero, max00, min0m, w32_et0, shown]
    simp [-List.getD_eq_getElem?_getD, List.getD_cons_zero, List.getD_cons_succ, hfs, tr, shown, asI_default, w16_zero, w32_zero, min0m, max00, w32_et, w32_max0, w32_et0]
    try omega
theorem ton_ft_ok {I : Interp} (hI : ∀ u, I.f 1 u = fbF 1 u) : CtrOk Tryd.prog I 16 (stepK sTON 1 2 false true) := .one (cS_ok I) (by kernel_rfl) ton_ft_run List.mem_cons_self (ton_ft_all hI)
def ton_tf_ob : List Obl := [⟨[(.x (.u .not (.o .lt (.n 0) (.u .len (.v 1)))))], (.q (.c .mset (.u .asm .nil) (.s [81]) (.u .b2i (.u .not (.o .eq (.o .get (.v 1) (.n 0)) (.n 0))))) (.u .asm .nil))⟩,
  ⟨[(.x (.u .not (.o .lt (.n 1) (.u .len (.v 1)))))], (.q (.c .mset (.c .mset (.u .asm .nil) (.s [69, 84]) (.u (.wrap .i32) (.o .get (.v 1) (.n 1)))) (.s [81]) (.u .b2i (.u .not (.o .eq (.o .get (.v 1) (.n 0)) (.n 0))))) (.c .mset (.u .asm .nil) (.s [81]) (.u .b2i (.u .not (.o .eq (.o .get (.v 1) (.n 0)) (.n 0))))))⟩,
  ⟨[], (.q (.u (.fld 0) (.u (.f 1) (.o .cons .nil (.o .cons (.v 1) (.o .cons (.v 3) (.o .cons (.v 4) (.o .cons (.v 5) (.o .cons (.v 7) .nil)))))))) (.n 0))⟩,
  ⟨[], (.q (.u (.fld 1) (.u (.f 1) (.o .cons .nil (.o .cons (.v 1) (.o .cons (.v 3) (.o .cons (.v 4) (.o .cons (.v 5) (.o .cons (.v 7) .nil)))))))) (.n 0))⟩,
  ⟨[], (.q (.u (.fld 2) (.u (.f 1) (.o .cons .nil (.o .cons (.v 1) (.o .cons (.v 3) (.o .cons (.v 4) (.o .cons (.v 5) (.o .cons (.v 7) .nil)))))))) (.n 0))⟩,
  ⟨[], (.q (.u (.fld 3) (.u (.f 1) (.o .cons .nil (.o .cons (.v 1) (.o .cons (.v 3) (.o .cons (.v 4) (.o .cons (.v 5) (.o .cons (.v 7) .nil)))))))) (.u (.wrap .i32) (.v 4)))⟩,
  ⟨[], (.q (.u (.fld 4) (.u (.f 1) (.o .cons .nil (.o .cons (.v 1) (.o .cons (.v 3) (.o .cons (.v 4) (.o .cons (.v 5) (.o .cons (.v 7) .nil)))))))) (.n 0))⟩]
theorem ton_tf_run : runOne cS 100 16 (stepK sTON 1 2 true false) (((stepK sTON 1 2 true false)).outs.headD (.nilp, ((stepK sTON 1 2 true false)).h)) = some ton_tf_ob := by kernel_rfl
theorem ton_tf_all {I : Interp} (hI : ∀ u, I.f 1 u = fbF 1 u) (w : World) : ∀ o ∈ ton_tf_ob, o.ok ⟨w, I⟩ := by
  unfold ton_tf_ob
  simp only [List.forall_mem_cons, List.not_mem_nil, false_implies, implies_true, and_true]
  refine ⟨?_, ?_, ?_, ?_, ?_, ?_, ?_⟩
  · intro ρ hf _ hfs
    have hF : ∀ u, ρ.f 1 u = fbF 1 u := fun u => by rw [hf]; exact hI u
    simp only [List.forall_mem_cons, List.not_mem_nil, false_implies, implies_true, and_true, Fact.ok, X.den, den_not, den_b2i, den_wrap, den_get, den_lt, den_le, den_eq, den_min, den_max, den_add, den_sub, den_len, den_cons, den_mset, asB_b, asI_i, asL_l, asS_s, Bool.not_eq_true', ilt_iff, ile_iff, ieq_iff, ilt_f, ile_f, ieq_f, w32_def, w16_def, w64_def] at hfs
    simp only [Fact.ok, X.den, den_not, den_b2i, den_wrap, den_get, den_lt, den_le, den_eq, den_min, den_max, den_add, den_sub, den_len, den_cons, den_mset, den_asm, den_f1, hF, asB_b, asI_i, asL_l, asS_s, asM_m, fbF, arg1, fld_step, List.getD_cons_zero, List.getD_cons_succ, getD_asI, Bool.not_eq_true', ilt_iff, ile_iff, ieq_iff, ilt_f, ile_f, ieq_f, w32_def, w16_def, w64_def, w32_w64]
    clear hF hf
    refine congrArg U.m (funext fun q => ?_)
    simp only [getD_pastI hfs, asI_default, w32_zero, w16_zero, not_true, if_false, k_IN, k_PT, k_Q, k_ET]
    by_cases hq : q = [81]
    · subst hq; rfl
    · simp only [hq, if_false]
  · intro ρ hf _ hfs
    have hF : ∀ u, ρ.f 1 u = fbF 1 u := fun u => by rw [hf]; exact hI u
    simp only [List.forall_mem_cons, List.not_mem_nil, false_implies, implies_true, and_true, Fact.ok, X.den, den_not, den_b2i, den_wrap, den_get, den_lt, den_le, den_eq, den_min, den_max, den_add, den_sub, den_len, den_cons, den_mset, asB_b, asI_i, asL_l, asS_s, Bool.not_eq_true', ilt_iff, ile_iff, ieq_iff, ilt_f, ile_f, ieq_f, w32_def, w16_def, w64_def] at hfs
    simp only [Fact.ok, X.den, den_not, den_b2i, den_wrap, den_get, den_lt, den_le, den_eq, den_min, den_max, den_add, den_sub, den_len, den_cons, den_mset, den_asm, den_f1, hF, asB_b, asI_i, asL_l, asS_s, asM_m, fbF, arg1, fld_step, List.getD_cons_zero, List.getD_cons_succ, getD_asI, Bool.not_eq_true', ilt_iff, ile_iff, ieq_iff, ilt_f, ile_f, ieq_f, w32_def, w16_def, w64_def, w32_w64]
    clear hF hf
    refine congrArg U.m (funext fun q => ?_)
    simp only [getD_pastI hfs, asI_default, w32_zero, w16_zero, not_true, if_false, k_IN, k_PT, k_Q, k_ET]
    by_cases hq : q = [69, 84]
    · subst hq; rfl
    · simp only [hq, if_false]
  all_goals
    intro ρ hf _ hfs
    have hF : ∀ u, ρ.f 1 u = fbF 1 u := fun u => by rw [hf]; exact hI u
    simp only [List.forall_mem_cons, List.not_mem_nil, false_implies, implies_true, and_true, Fact.ok, X.den, den_not, den_b2i, den_wrap, den_get, den_lt, den_le, den_eq, den_min, den_max, den_add, den_sub, den_len, den_cons, den_mset, asB_b, asI_i, asL_l, asS_s, Bool.not_eq_true', ilt_iff, ile_iff, ieq_iff, ilt_f, ile_f, ieq_f, w32_def, w16_def, w64_def] at hfs
    simp only [Fact.ok, X.den, den_not, den_b2i, den_wrap, den_get, den_lt, den_le, den_eq, den_min, den_max, den_add, den_sub, den_len, den_cons, den_mset, den_asm, den_f1, hF, asB_b, asI_i, asL_l, asS_s, asM_m, fbF, arg1, fld_step, List.getD_cons_zero, List.getD_cons_succ, getD_asI, Bool.not_eq_true', ilt_iff, ile_iff, ieq_iff, ilt_f, ile_f, ieq_f, w32_def, w16_def, w64_def, w32_w64]
    clear hF hf
    refine congrArg U.i ?_
    try simp only [tn0, tn1, tn2, tn3, tn4, w32_w64, Int.sub_self, w32_zero, max00, min0m] at hfs
    simp only [tonZ, nz, ne_eq, getD_asI, tn0, tn1, tn2, tn3, tn4, w64_up, w64_dn, w32_max0, w32_et, w16_inc, w16_dec, w16_w16, w32_w32, Int.sub_self, w32_zero, max00, min0m, w32_et0, shown]
    simp [-List.getD_eq_getElem?_getD, List.getD_cons_zero, List.getD_cons_succ, hfs, tr, shown, asI_default, w16_zero, w32_zero, min0m, max00, w32_et, w32_max0, w32_et0]
    try omega
theorem ton_tf_ok {I : Interp} (hI : ∀ u, I.f 1 u = fbF 1 u) : CtrOk Tryd.prog I 16 (stepK sTON 1 2 true false) := .one (cS_ok I) (by kernel_rfl) ton_tf_run List.mem_cons_self (ton_tf_all hI)
def ton_tt_ob : List Obl := [⟨[], (.q (.u (.fld 0) (.u (.f 1) (.o .cons .nil (.o .cons .nil (.o .cons (.v 3) (.o .cons (.v 4) (.o .cons (.v 5) (.o .cons (.v 7) .nil)))))))) (.n 0))⟩,
  ⟨[], (.q (.u (.fld 1) (.u (.f 1) (.o .cons .nil (.o .cons .nil (.o .cons (.v 3) (.o .cons (.v 4) (.o .cons (.v 5) (.o .cons (.v 7) .nil)))))))) (.n 0))⟩,
  ⟨[], (.q (.u (.fld 2) (.u (.f 1) (.o .cons .nil (.o .cons .nil (.o .cons (.v 3) (.o .cons (.v 4) (.o .cons (.v 5) (.o .cons (.v 7) .nil)))))))) (.n 0))⟩,
  ⟨[], (.q (.u (.fld 3) (.u (.f 1) (.o .cons .nil (.o .cons .nil (.o .cons (.v 3) (.o .cons (.v 4) (.o .cons (.v 5) (.o .cons (.v 7) .nil)))))))) (.u (.wrap .i32) (.v 4)))⟩,
  ⟨[], (.q (.u (.fld 4) (.u (.f 1) (.o .cons .nil (.o .cons .nil (.o .cons (.v 3) (.o .cons (.v 4) (.o .cons (.v 5) (.o .cons (.v 7) .nil)))))))) (.n 0))⟩]
theorem ton_tt_run : runOne cS 100 16 (stepK sTON 1 2 true true) (((stepK sTON 1 2 true true)).outs.headD (.nilp, ((stepK sTON 1 2 true true)).h)) = some ton_tt_ob := by kernel_rfl
theorem ton_tt_all {I : Interp} (hI : ∀ u, I.f 1 u = fbF 1 u) (w : World) : ∀ o ∈ ton_tt_ob, o.ok ⟨w, I⟩ := by
  unfold ton_tt_ob
  simp only [List.forall_mem_cons, List.not_mem_nil, false_implies, implies_true, and_true]
  refine ⟨?_, ?_, ?_, ?_, ?_⟩
  all_goals
    intro ρ hf _ hfs
    have hF : ∀ u, ρ.f 1 u = fbF 1 u := fun u => by rw [hf]; exact hI u
    simp only [List.forall_mem_cons, List.not_mem_nil, false_implies, implies_true, and_true, Fact.ok, X.den, den_not, den_b2i, den_wrap, den_get, den_lt, den_le, den_eq, den_min, den_max, den_add, den_sub, den_len, den_cons, den_mset, asB_b, asI_i, asL_l, asS_s, Bool.not_eq_true', ilt_iff, ile_iff, ieq_iff, ilt_f, ile_f, ieq_f, w32_def, w16_def, w64_def] at hfs
    simp only [Fact.ok, X.den, den_not, den_b2i, den_wrap, den_get, den_lt, den_le, den_eq, den_min, den_max, den_add, den_sub, den_len, den_cons, den_mset, den_asm, den_f1, hF, asB_b, asI_i, asL_l, asS_s, asM_m, fbF, arg1, fld_step, List.getD_cons_zero, List.getD_cons_succ, getD_asI, Bool.not_eq_true', ilt_iff, ile_iff, ieq_iff, ilt_f, ile_f, ieq_f, w32_def, w16_def, w64_def, w32_w64]
    clear hF hf
    refine congrArg U.i ?_
    try simp only [tn0, tn1, tn2, tn3, tn4, w32_w64, Int.sub_self, w32_zero, max00, min0m] at hfs
    simp only [tonZ, nz, ne_eq, getD_asI, tn0, tn1, tn2, tn3, tn4, w64_up, w64_dn, w32_max0, w32_et, w16_inc, w16_dec, w16_w16, w32_w32, Int.sub_self, w32_zero, max00, min0m, w32_et0, shown]
    simp [-List.getD_eq_getElem?_getD, List.getD_cons_zero, List.getD_cons_succ, hfs, tr, shown, asI_default, w16_zero, w32_zero, min0m, max00, w32_et, w32_max0, w32_et0]
    try omega
theorem ton_tt_ok {I : Interp} (hI : ∀ u, I.f 1 u = fbF 1 u) : CtrOk Tryd.prog I 16 (stepK sTON 1 2 true true) := .one (cS_ok I) (by kernel_rfl) ton_tt_run List.mem_cons_self (ton_tt_all hI)
end Go.Proofs.YtkphkjffcpkhjaaDoor
end
/-! fb.Step of CTU: the runs (printed by gen/steps.py). -/
noncomputable section
set_option linter.unusedSimpArgs false
set_option linter.unusedVariables false
namespace Go.Proofs.YtkphkjffcpkhjaaDoor
open Go Go.SE
set_option maxRecDepth 1000000
def ctu_ff_ob : List Obl := [⟨[(.x (.u .not (.o .lt (.n 0) (.u .len (.v 0)))))], (.q (.c .mset (.u .asm .nil) (.s [67, 85]) (.u .b2i (.u .not (.o .eq (.o .get (.v 0) (.n 0)) (.n 0))))) (.u .asm .nil))⟩,
  ⟨[(.x (.u .not (.o .lt (.n 1) (.u .len (.v 0)))))], (.q (.c .mset (.c .mset (.u .asm .nil) (.s [67, 85]) (.u .b2i (.u .not (.o .eq (.o .get (.v 0) (.n 0)) (.n 0))))) (.s [82]) (.u .b2i (.u .not (.o .eq (.o .get (.v 0) (.n 1)) (.n 0))))) (.c .mset (.u .asm .nil) (.s [67, 85]) (.u .b2i (.u .not (.o .eq (.o .get (.v 0) (.n 0)) (.n 0))))))⟩,
  ⟨[(.x (.u .not (.o .lt (.n 2) (.u .len (.v 0)))))], (.q (.c .mset (.c .mset (.c .mset (.u .asm .nil) (.s [67, 85]) (.u .b2i (.u .not (.o .eq (.o .get (.v 0) (.n 0)) (.n 0))))) (.s [80, 86]) (.u (.wrap .i16) (.o .get (.v 0) (.n 2)))) (.s [82]) (.u .b2i (.u .not (.o .eq (.o .get (.v 0) (.n 1)) (.n 0))))) (.c .mset (.c .mset (.u .asm .nil) (.s [67, 85]) (.u .b2i (.u .not (.o .eq (.o .get (.v 0) (.n 0)) (.n 0))))) (.s [82]) (.u .b2i (.u .not (.o .eq (.o .get (.v 0) (.n 1)) (.n 0))))))⟩,
  ⟨[(.x (.u .not (.o .lt (.n 0) (.u .len (.v 1)))))], (.q (.c .mset (.c .mset (.c .mset (.c .mset (.u .asm .nil) (.s [67, 85]) (.u .b2i (.u .not (.o .eq (.o .get (.v 0) (.n 0)) (.n 0))))) (.s [80, 86]) (.u (.wrap .i16) (.o .get (.v 0) (.n 2)))) (.s [81]) (.u .b2i (.u .not (.o .eq (.o .get (.v 1) (.n 0)) (.n 0))))) (.s [82]) (.u .b2i (.u .not (.o .eq (.o .get (.v 0) (.n 1)) (.n 0))))) (.c .mset (.c .mset (.c .mset (.u .asm .nil) (.s [67, 85]) (.u .b2i (.u .not (.o .eq (.o .get (.v 0) (.n 0)) (.n 0))))) (.s [80, 86]) (.u (.wrap .i16) (.o .get (.v 0) (.n 2)))) (.s [82]) (.u .b2i (.u .not (.o .eq (.o .get (.v 0) (.n 1)) (.n 0))))))⟩,
  ⟨[(.x (.u .not (.o .lt (.n 1) (.u .len (.v 1)))))], (.q (.c .mset (.c .mset (.c .mset (.c .mset (.c .mset (.u .asm .nil) (.s [67, 85]) (.u .b2i (.u .not (.o .eq (.o .get (.v 0) (.n 0)) (.n 0))))) (.s [67, 86]) (.u (.wrap .i16) (.o .get (.v 1) (.n 1)))) (.s [80, 86]) (.u (.wrap .i16) (.o .get (.v 0) (.n 2)))) (.s [81]) (.u .b2i (.u .not (.o .eq (.o .get (.v 1) (.n 0)) (.n 0))))) (.s [82]) (.u .b2i (.u .not (.o .eq (.o .get (.v 0) (.n 1)) (.n 0))))) (.c .mset (.c .mset (.c .mset (.c .mset (.u .asm .nil) (.s [67, 85]) (.u .b2i (.u .not (.o .eq (.o .get (.v 0) (.n 0)) (.n 0))))) (.s [80, 86]) (.u (.wrap .i16) (.o .get (.v 0) (.n 2)))) (.s [81]) (.u .b2i (.u .not (.o .eq (.o .get (.v 1) (.n 0)) (.n 0))))) (.s [82]) (.u .b2i (.u .not (.o .eq (.o .get (.v 0) (.n 1)) (.n 0))))))⟩,
  ⟨[(.x (.u .not (.o .eq (.o .get (.v 0) (.n 1)) (.n 0)))), (.x (.u .not (.o .eq (.o .get (.v 0) (.n 0)) (.n 0))))], (.q (.u (.fld 0) (.u (.f 4) (.o .cons (.v 0) (.o .cons (.v 1) (.o .cons (.v 3) (.o .cons (.v 4) (.o .cons (.v 5) (.o .cons (.v 7) .nil)))))))) (.u .b2i (.u .not (.o .eq (.u .b2i (.o .le (.u (.wrap .i16) (.o .get (.v 0) (.n 2))) (.n 0))) (.n 0)))))⟩,
  ⟨[(.x (.u .not (.o .eq (.o .get (.v 0) (.n 1)) (.n 0)))), (.x (.u .not (.o .eq (.o .get (.v 0) (.n 0)) (.n 0))))], (.q (.u (.fld 1) (.u (.f 4) (.o .cons (.v 0) (.o .cons (.v 1) (.o .cons (.v 3) (.o .cons (.v 4) (.o .cons (.v 5) (.o .cons (.v 7) .nil)))))))) (.n 0))⟩,
  ⟨[(.x (.u .not (.o .eq (.o .get (.v 0) (.n 1)) (.n 0)))), (.x (.u .not (.o .eq (.o .get (.v 0) (.n 0)) (.n 0))))], (.q (.u (.fld 2) (.u (.f 4) (.o .cons (.v 0) (.o .cons (.v 1) (.o .cons (.v 3) (.o .cons (.v 4) (.o .cons (.v 5) (.o .cons (.v 7) .nil)))))))) (.u .b2i (.u .not (.o .eq (.o .get (.v 0) (.n 0)) (.n 0)))))⟩,
  ⟨[(.x (.u .not (.o .eq (.o .get (.v 0) (.n 1)) (.n 0)))), (.x (.u .not (.o .eq (.o .get (.v 0) (.n 0)) (.n 0))))], (.q (.u (.fld 3) (.u (.f 4) (.o .cons (.v 0) (.o .cons (.v 1) (.o .cons (.v 3) (.o .cons (.v 4) (.o .cons (.v 5) (.o .cons (.v 7) .nil)))))))) (.u (.wrap .i32) (.v 4)))⟩,
  ⟨[(.x (.u .not (.o .eq (.o .get (.v 0) (.n 1)) (.n 0)))), (.x (.u .not (.o .eq (.o .get (.v 0) (.n 0)) (.n 0))))], (.q (.u (.fld 4) (.u (.f 4) (.o .cons (.v 0) (.o .cons (.v 1) (.o .cons (.v 3) (.o .cons (.v 4) (.o .cons (.v 5) (.o .cons (.v 7) .nil)))))))) (.u (.wrap .i32) (.v 5)))⟩,
  ⟨[(.x (.o .eq (.u (.wrap .i32) (.v 3)) (.n 0))), (.x (.o .eq (.o .get (.v 0) (.n 1)) (.n 0))), (.x (.u .not (.o .eq (.o .get (.v 0) (.n 0)) (.n 0))))], (.q (.u (.fld 0) (.u (.f 4) (.o .cons (.v 0) (.o .cons (.v 1) (.o .cons (.v 3) (.o .cons (.v 4) (.o .cons (.v 5) (.o .cons (.v 7) .nil)))))))) (.u .b2i (.u .not (.o .eq (.u .b2i (.o .le (.u (.wrap .i16) (.o .get (.v 0) (.n 2))) (.o .min (.u (.wrap .i64) (.o .add (.u (.wrap .i16) (.o .get (.v 1) (.n 1))) (.n 1))) (.n 32767)))) (.n 0)))))⟩,
  ⟨[(.x (.o .eq (.u (.wrap .i32) (.v 3)) (.n 0))), (.x (.o .eq (.o .get (.v 0) (.n 1)) (.n 0))), (.x (.u .not (.o .eq (.o .get (.v 0) (.n 0)) (.n 0))))], (.q (.u (.fld 1) (.u (.f 4) (.o .cons (.v 0) (.o .cons (.v 1) (.o .cons (.v 3) (.o .cons (.v 4) (.o .cons (.v 5) (.o .cons (.v 7) .nil)))))))) (.u (.wrap .i16) (.o .min (.u (.wrap .i64) (.o .add (.u (.wrap .i16) (.o .get (.v 1) (.n 1))) (.n 1))) (.n 32767))))⟩,
  ⟨[(.x (.o .eq (.u (.wrap .i32) (.v 3)) (.n 0))), (.x (.o .eq (.o .get (.v 0) (.n 1)) (.n 0))), (.x (.u .not (.o .eq (.o .get (.v 0) (.n 0)) (.n 0))))], (.q (.u (.fld 2) (.u (.f 4) (.o .cons (.v 0) (.o .cons (.v 1) (.o .cons (.v 3) (.o .cons (.v 4) (.o .cons (.v 5) (.o .cons (.v 7) .nil)))))))) (.u .b2i (.u .not (.o .eq (.o .get (.v 0) (.n 0)) (.n 0)))))⟩,
  ⟨[(.x (.o .eq (.u (.wrap .i32) (.v 3)) (.n 0))), (.x (.o .eq (.o .get (.v 0) (.n 1)) (.n 0))), (.x (.u .not (.o .eq (.o .get (.v 0) (.n 0)) (.n 0))))], (.q (.u (.fld 3) (.u (.f 4) (.o .cons (.v 0) (.o .cons (.v 1) (.o .cons (.v 3) (.o .cons (.v 4) (.o .cons (.v 5) (.o .cons (.v 7) .nil)))))))) (.u (.wrap .i32) (.v 4)))⟩,
  ⟨[(.x (.o .eq (.u (.wrap .i32) (.v 3)) (.n 0))), (.x (.o .eq (.o .get (.v 0) (.n 1)) (.n 0))), (.x (.u .not (.o .eq (.o .get (.v 0) (.n 0)) (.n 0))))], (.q (.u (.fld 4) (.u (.f 4) (.o .cons (.v 0) (.o .cons (.v 1) (.o .cons (.v 3) (.o .cons (.v 4) (.o .cons (.v 5) (.o .cons (.v 7) .nil)))))))) (.u (.wrap .i32) (.v 5)))⟩,
  ⟨[(.x (.u .not (.o .eq (.u (.wrap .i32) (.v 3)) (.n 0)))), (.x (.o .eq (.o .get (.v 0) (.n 1)) (.n 0))), (.x (.u .not (.o .eq (.o .get (.v 0) (.n 0)) (.n 0))))], (.q (.u (.fld 0) (.u (.f 4) (.o .cons (.v 0) (.o .cons (.v 1) (.o .cons (.v 3) (.o .cons (.v 4) (.o .cons (.v 5) (.o .cons (.v 7) .nil)))))))) (.u .b2i (.u .not (.o .eq (.u .b2i (.o .le (.u (.wrap .i16) (.o .get (.v 0) (.n 2))) (.u (.wrap .i16) (.o .get (.v 1) (.n 1))))) (.n 0)))))⟩,
  ⟨[(.x (.u .not (.o .eq (.u (.wrap .i32) (.v 3)) (.n 0)))), (.x (.o .eq (.o .get (.v 0) (.n 1)) (.n 0))), (.x (.u .not (.o .eq (.o .get (.v 0) (.n 0)) (.n 0))))], (.q (.u (.fld 1) (.u (.f 4) (.o .cons (.v 0) (.o .cons (.v 1) (.o .cons (.v 3) (.o .cons (.v 4) (.o .cons (.v 5) (.o .cons (.v 7) .nil)))))))) (.u (.wrap .i16) (.u (.wrap .i16) (.o .get (.v 1) (.n 1)))))⟩,
  ⟨[(.x (.u .not (.o .eq (.u (.wrap .i32) (.v 3)) (.n 0)))), (.x (.o .eq (.o .get (.v 0) (.n 1)) (.n 0))), (.x (.u .not (.o .eq (.o .get (.v 0) (.n 0)) (.n 0))))], (.q (.u (.fld 2) (.u (.f 4) (.o .cons (.v 0) (.o .cons (.v 1) (.o .cons (.v 3) (.o .cons (.v 4) (.o .cons (.v 5) (.o .cons (.v 7) .nil)))))))) (.u .b2i (.u .not (.o .eq (.o .get (.v 0) (.n 0)) (.n 0)))))⟩,
  ⟨[(.x (.u .not (.o .eq (.u (.wrap .i32) (.v 3)) (.n 0)))), (.x (.o .eq (.o .get (.v 0) (.n 1)) (.n 0))), (.x (.u .not (.o .eq (.o .get (.v 0) (.n 0)) (.n 0))))], (.q (.u (.fld 3) (.u (.f 4) (.o .cons (.v 0) (.o .cons (.v 1) (.o .cons (.v 3) (.o .cons (.v 4) (.o .cons (.v 5) (.o .cons (.v 7) .nil)))))))) (.u (.wrap .i32) (.v 4)))⟩,
  ⟨[(.x (.u .not (.o .eq (.u (.wrap .i32) (.v 3)) (.n 0)))), (.x (.o .eq (.o .get (.v 0) (.n 1)) (.n 0))), (.x (.u .not (.o .eq (.o .get (.v 0) (.n 0)) (.n 0))))], (.q (.u (.fld 4) (.u (.f 4) (.o .cons (.v 0) (.o .cons (.v 1) (.o .cons (.v 3) (.o .cons (.v 4) (.o .cons (.v 5) (.o .cons (.v 7) .nil)))))))) (.u (.wrap .i32) (.v 5)))⟩,
  ⟨[(.x (.u .not (.o .eq (.o .get (.v 0) (.n 1)) (.n 0)))), (.x (.o .eq (.o .get (.v 0) (.n 0)) (.n 0)))], (.q (.u (.fld 0) (.u (.f 4) (.o .cons (.v 0) (.o .cons (.v 1) (.o .cons (.v 3) (.o .cons (.v 4) (.o .cons (.v 5) (.o .cons (.v 7) .nil)))))))) (.u .b2i (.u .not (.o .eq (.u .b2i (.o .le (.u (.wrap .i16) (.o .get (.v 0) (.n 2))) (.n 0))) (.n 0)))))⟩,
  ⟨[(.x (.u .not (.o .eq (.o .get (.v 0) (.n 1)) (.n 0)))), (.x (.o .eq (.o .get (.v 0) (.n 0)) (.n 0)))], (.q (.u (.fld 1) (.u (.f 4) (.o .cons (.v 0) (.o .cons (.v 1) (.o .cons (.v 3) (.o .cons (.v 4) (.o .cons (.v 5) (.o .cons (.v 7) .nil)))))))) (.n 0))⟩,
  ⟨[(.x (.u .not (.o .eq (.o .get (.v 0) (.n 1)) (.n 0)))), (.x (.o .eq (.o .get (.v 0) (.n 0)) (.n 0)))], (.q (.u (.fld 2) (.u (.f 4) (.o .cons (.v 0) (.o .cons (.v 1) (.o .cons (.v 3) (.o .cons (.v 4) (.o .cons (.v 5) (.o .cons (.v 7) .nil)))))))) (.u .b2i (.u .not (.o .eq (.o .get (.v 0) (.n 0)) (.n 0)))))⟩,
  ⟨[(.x (.u .not (.o .eq (.o .get (.v 0) (.n 1)) (.n 0)))), (.x (.o .eq (.o .get (.v 0) (.n 0)) (.n 0)))], (.q (.u (.fld 3) (.u (.f 4) (.o .cons (.v 0) (.o .cons (.v 1) (.o .cons (.v 3) (.o .cons (.v 4) (.o .cons (.v 5) (.o .cons (.v 7) .nil)))))))) (.u (.wrap .i32) (.v 4)))⟩,
  ⟨[(.x (.u .not (.o .eq (.o .get (.v 0) (.n 1)) (.n 0)))), (.x (.o .eq (.o .get (.v 0) (.n 0)) (.n 0)))], (.q (.u (.fld 4) (.u (.f 4) (.o .cons (.v 0) (.o .cons (.v 1) (.o .cons (.v 3) (.o .cons (.v 4) (.o .cons (.v 5) (.o .cons (.v 7) .nil)))))))) (.u (.wrap .i32) (.v 5)))⟩,
  ⟨[(.x (.o .eq (.o .get (.v 0) (.n 1)) (.n 0))), (.x (.o .eq (.o .get (.v 0) (.n 0)) (.n 0)))], (.q (.u (.fld 0) (.u (.f 4) (.o .cons (.v 0) (.o .cons (.v 1) (.o .cons (.v 3) (.o .cons (.v 4) (.o .cons (.v 5) (.o .cons (.v 7) .nil)))))))) (.u .b2i (.u .not (.o .eq (.u .b2i (.o .le (.u (.wrap .i16) (.o .get (.v 0) (.n 2))) (.u (.wrap .i16) (.o .get (.v 1) (.n 1))))) (.n 0)))))⟩,
  ⟨[(.x (.o .eq (.o .get (.v 0) (.n 1)) (.n 0))), (.x (.o .eq (.o .get (.v 0) (.n 0)) (.n 0)))], (.q (.u (.fld 1) (.u (.f 4) (.o .cons (.v 0) (.o .cons (.v 1) (.o .cons (.v 3) (.o .cons (.v 4) (.o .cons (.v 5) (.o .cons (.v 7) .nil)))))))) (.u (.wrap .i16) (.u (.wrap .i16) (.o .get (.v 1) (.n 1)))))⟩,
  ⟨[(.x (.o .eq (.o .get (.v 0) (.n 1)) (.n 0))), (.x (.o .eq (.o .get (.v 0) (.n 0)) (.n 0)))], (.q (.u (.fld 2) (.u (.f 4) (.o .cons (.v 0) (.o .cons (.v 1) (.o .cons (.v 3) (.o .cons (.v 4) (.o .cons (.v 5) (.o .cons (.v 7) .nil)))))))) (.u .b2i (.u .not (.o .eq (.o .get (.v 0) (.n 0)) (.n 0)))))⟩,
  ⟨[(.x (.o .eq (.o .get (.v 0) (.n 1)) (.n 0))), (.x (.o .eq (.o .get (.v 0) (.n 0)) (.n 0)))], (.q (.u (.fld 3) (.u (.f 4) (.o .cons (.v 0) (.o .cons (.v 1) (.o .cons (.v 3) (.o .cons (.v 4) (.o .cons (.v 5) (.o .cons (.v 7) .nil)))))))) (.u (.wrap .i32) (.v 4)))⟩,
  ⟨[(.x (.o .eq (.o .get (.v 0) (.n 1)) (.n 0))), (.x (.o .eq (.o .get (.v 0) (.n 0)) (.n 0)))], (.q (.u (.fld 4) (.u (.f 4) (.o .cons (.v 0) (.o .cons (.v 1) (.o .cons (.v 3) (.o .cons (.v 4) (.o .cons (.v 5) (.o .cons (.v 7) .nil)))))))) (.u (.wrap .i32) (.v 5)))⟩]
theorem ctu_ff_run : runOne cS 100 16 (stepK sCTU 4 2 false false) (((stepK sCTU 4 2 false false)).outs.headD (.nilp, ((stepK sCTU 4 2 false false)).h)) = some ctu_ff_ob := by kernel_rfl
theorem ctu_ff_all {I : Interp} (hI : ∀ u, I.f 4 u = fbF 4 u) (w : World) : ∀ o ∈ ctu_ff_ob, o.ok ⟨w, I⟩ := by
  unfold ctu_ff_ob
  simp only [List.forall_mem_cons, List.not_mem_nil, false_implies, implies_true, and_true]
  refine ⟨?_, ?_, ?_, ?_, ?_, ?_, ?_, ?_, ?_, ?_, ?_, ?_, ?_, ?_, ?_, ?_, ?_, ?_, ?_, ?_, ?_, ?_, ?_, ?_, ?_, ?_, ?_, ?_, ?_, ?_⟩
  · intro ρ hf _ hfs
    have hF : ∀ u, ρ.f 4 u = fbF 4 u := fun u => by rw [hf]; exact hI u
    simp only [List.forall_mem_cons, List.not_mem_nil, false_implies, implies_true, and_true, Fact.ok, X.den, den_not, den_b2i, den_wrap, den_get, den_lt, den_le, den_eq, den_min, den_max, den_add, den_sub, den_len, den_cons, den_mset, asB_b, asI_i, asL_l, asS_s, Bool.not_eq_true', ilt_iff, ile_iff, ieq_iff, ilt_f, ile_f, ieq_f, w32_def, w16_def, w64_def] at hfs
    simp only [Fact.ok, X.den, den_not, den_b2i, den_wrap, den_get, den_lt, den_le, den_eq, den_min, den_max, den_add, den_sub, den_len, den_cons, den_mset, den_asm, den_f1, hF, asB_b, asI_i, asL_l, asS_s, asM_m, fbF, arg1, fld_step, List.getD_cons_zero, List.getD_cons_succ, getD_asI, Bool.not_eq_true', ilt_iff, ile_iff, ieq_iff, ilt_f, ile_f, ieq_f, w32_def, w16_def, w64_def, w32_w64]
    clear hF hf
    refine congrArg U.m (funext fun q => ?_)
    simp only [getD_pastI hfs, asI_default, w32_zero, w16_zero, not_true, if_false, k_CU, k_R, k_PV, k_Q, k_CV]
    by_cases hq : q = [67, 85]
    · subst hq; rfl
    · simp only [hq, if_false]
  · intro ρ hf _ hfs
    have hF : ∀ u, ρ.f 4 u = fbF 4 u := fun u => by rw [hf]; exact hI u
    simp only [List.forall_mem_cons, List.not_mem_nil, false_implies, implies_true, and_true, Fact.ok, X.den, den_not, den_b2i, den_wrap, den_get, den_lt, den_le, den_eq, den_min, den_max, den_add, den_sub, den_len, den_cons, den_mset, asB_b, asI_i, asL_l, asS_s, Bool.not_eq_true', ilt_iff, ile_iff, ieq_iff, ilt_f, ile_f, ieq_f, w32_def, w16_def, w64_def] at hfs
    simp only [Fact.ok, X.den, den_not, den_b2i, den_wrap, den_get, den_lt, den_le, den_eq, den_min, den_max, den_add, den_sub, den_len, den_cons, den_mset, den_asm, den_f1, hF, asB_b, asI_i, asL_l, asS_s, asM_m, fbF, arg1, fld_step, List.getD_cons_zero, List.getD_cons_succ, getD_asI, Bool.not_eq_true', ilt_iff, ile_iff, ieq_iff, ilt_f, ile_f, ieq_f, w32_def, w16_def, w64_def, w32_w64]
    clear hF hf
    refine congrArg U.m (funext fun q => ?_)
    simp only [getD_pastI hfs, asI_default, w32_zero, w16_zero, not_true, if_false, k_CU, k_R, k_PV, k_Q, k_CV]
    by_cases hq : q = [82]
    · subst hq; rfl
    · simp only [hq, if_false]
  · intro ρ hf _ hfs
    have hF : ∀ u, ρ.f 4 u = fbF 4 u := fun u => by rw [hf]; exact hI u
    simp only [List.forall_mem_cons, List.not_mem_nil, false_implies, implies_true, and_true, Fact.ok, X.den, den_not, den_b2i, den_wrap, den_get, den_lt, den_le, den_eq, den_min, den_max, den_add, den_sub, den_len, den_cons, den_mset, asB_b, asI_i, asL_l, asS_s, Bool.not_eq_true', ilt_iff, ile_iff, ieq_iff, ilt_f, ile_f, ieq_f, w32_def, w16_def, w64_def] at hfs
    simp only [Fact.ok, X.den, den_not, den_b2i, den_wrap, den_get, den_lt, den_le, den_eq, den_min, den_max, den_add, den_sub, den_len, den_cons, den_mset, den_asm, den_f1, hF, asB_b, asI_i, asL_l, asS_s, asM_m, fbF, arg1, fld_step, List.getD_cons_zero, List.getD_cons_succ, getD_asI, Bool.not_eq_true', ilt_iff, ile_iff, ieq_iff, ilt_f, ile_f, ieq_f, w32_def, w16_def, w64_def, w32_w64]
    clear hF hf
    refine congrArg U.m (funext fun q => ?_)
    simp only [getD_pastI hfs, asI_default, w32_zero, w16_zero, not_true, if_false, k_CU, k_R, k_PV, k_Q, k_CV]
    by_cases hq : q = [80, 86]
    · subst hq; rfl
    · simp only [hq, if_false]
  · intro ρ hf _ hfs
    have hF : ∀ u, ρ.f 4 u = fbF 4 u := fun u => by rw [hf]; exact hI u
    simp only [List.forall_mem_cons, List.not_mem_nil, false_implies, implies_true, and_true, Fact.ok, X.den, den_not, den_b2i, den_wrap, den_get, den_lt, den_le, den_eq, den_min, den_max, den_add, den_sub, den_len, den_cons, den_mset, asB_b, asI_i, asL_l, asS_s, Bool.not_eq_true', ilt_iff, ile_iff, ieq_iff, ilt_f, ile_f, ieq_f, w32_def, w16_def, w64_def] at hfs
    simp only [Fact.ok, X.den, den_not, den_b2i, den_wrap, den_get, den_lt, den_le, den_eq, den_min, den_max, den_add, den_sub, den_len, den_cons, den_mset, den_asm, den_f1, hF, asB_b, asI_i, asL_l, asS_s, asM_m, fbF, arg1, fld_step, List.getD_cons_zero, List.getD_cons_succ, getD_asI, Bool.not_eq_true', ilt_iff, ile_iff, ieq_iff, ilt_f, ile_f, ieq_f, w32_def, w16_def, w64_def, w32_w64]
    clear hF hf
    refine congrArg U.m (funext fun q => ?_)
    simp only [getD_pastI hfs, asI_default, w32_zero, w16_zero, not_true, if_false, k_CU, k_R, k_PV, k_Q, k_CV]
    by_cases hq : q = [81]
    · subst hq; rfl
    · simp only [hq, if_false]
  · intro ρ hf _ hfs
    have hF : ∀ u, ρ.f 4 u = fbF 4 u := fun u => by rw [hf]; exact hI u
    simp only [List.forall_mem_cons, List.not_mem_nil, false_implies, implies_true, and_true, Fact.ok, X.den, den_not, den_b2i, den_wrap, den_get, den_lt, den_le, den_eq, den_min, den_max, den_add, den_sub, den_len, den_cons, den_mset, asB_b, asI_i, asL_l, asS_s, Bool.not_eq_true', ilt_iff, ile_iff, ieq_iff, ilt_f, ile_f, ieq_f, w32_def, w16_def, w64_def] at hfs
    simp only [Fact.ok, X.den, den_not, den_b2i, den_wrap, den_get, den_lt, den_le, den_eq, den_min, den_max, den_add, den_sub, den_len, den_cons, den_mset, den_asm, den_f1, hF, asB_b, asI_i, asL_l, asS_s, asM_m, fbF, arg1, fld_step, List.getD_cons_zero, List.getD_cons_succ, getD_asI, Bool.not_eq_true', ilt_iff, ile_iff, ieq_iff, ilt_f, ile_f, ieq_f, w32_def, w16_def, w64_def, w32_w64]
    clear hF hf
    refine congrArg U.m (funext fun q => ?_)
    simp only [getD_pastI hfs, asI_default, w32_zero, w16_zero, not_true, if_false, k_CU, k_R, k_PV, k_Q, k_CV]
    by_cases hq : q = [67, 86]
    · subst hq; rfl
    · simp only [hq, if_false]
  all_goals
    intro ρ hf _ hfs
    have hF : ∀ u, ρ.f 4 u = fbF 4 u := fun u => by rw [hf]; exact hI u
    simp only [List.forall_mem_cons, List.not_mem_nil, false_implies, implies_true, and_true, Fact.ok, X.den, den_not, den_b2i, den_wrap, den_get, den_lt, den_le, den_eq, den_min, den_max, den_add, den_sub, den_len, den_cons, den_mset, asB_b, asI_i, asL_l, asS_s, Bool.not_eq_true', ilt_iff, ile_iff, ieq_iff, ilt_f, ile_f, ieq_f, w32_def, w16_def, w64_def] at hfs
    simp only [Fact.ok, X.den, den_not, den_b2i, den_wrap, den_get, den_lt, den_le, den_eq, den_min, den_max, den_add, den_sub, den_len, den_cons, den_mset, den_asm, den_f1, hF, asB_b, asI_i, asL_l, asS_s, asM_m, fbF, arg1, fld_step, List.getD_cons_zero, List.getD_cons_succ, getD_asI, Bool.not_eq_true', ilt_iff, ile_iff, ieq_iff, ilt_f, ile_f, ieq_f, w32_def, w16_def, w64_def, w32_w64]
    clear hF hf
    refine congrArg U.i ?_
    try simp only [tn0, tn1, tn2, tn3, tn4, w32_w64, Int.sub_self, w32_zero, max00, min0m] at hfs
    simp only [ctuZ, nz, ne_eq, getD_asI, tn0, tn1, tn2, tn3, tn4, w64_up, w64_dn, w32_max0, w32_et, w16_inc, w16_dec, w16_w16, w32_w32, Int.sub_self, w32_zero, max00, min0m, w32_et0, shown]
    simp [-List.getD_eq_getElem?_getD, List.getD_cons_zero, List.getD_cons_succ, hfs, tr, shown, asI_default, w16_zero, w32_zero, min0m, max00, w32_et, w32_max0, w32_et0]
    try omega
theorem ctu_ff_ok {I : Interp} (hI : ∀ u, I.f 4 u = fbF 4 u) : CtrOk Tryd.prog I 16 (stepK sCTU 4 2 false false) := .one (cS_ok I) (by kernel_rfl) ctu_ff_run List.mem_cons_self (ctu_ff_all hI)
def ctu_ft_ob : List Obl := [⟨[(.x (.u .not (.o .lt (.n 0) (.u .len (.v 0)))))], (.q (.c .mset (.u .asm .nil) (.s [67, 85]) (.u .b2i (.u .not (.o .eq (.o .get (.v 0) (.n 0)) (.n 0))))) (.u .asm .nil))⟩,
  ⟨[(.x (.u .not (.o .lt (.n 1) (.u .len (.v 0)))))], (.q (.c .mset (.c .mset (.u .asm .nil) (.s [67, 85]) (.u .b2i (.u .not (.o .eq (.o .get (.v 0) (.n 0)) (.n 0))))) (.s [82]) (.u .b2i (.u .not (.o .eq (.o .get (.v 0) (.n 1)) (.n 0))))) (.c .mset (.u .asm .nil) (.s [67, 85]) (.u .b2i (.u .not (.o .eq (.o .get (.v 0) (.n 0)) (.n 0))))))⟩,
  ⟨[(.x (.u .not (.o .lt (.n 2) (.u .len (.v 0)))))], (.q (.c .mset (.c .mset (.c .mset (.u .asm .nil) (.s [67, 85]) (.u .b2i (.u .not (.o .eq (.o .get (.v 0) (.n 0)) (.n 0))))) (.s [80, 86]) (.u (.wrap .i16) (.o .get (.v 0) (.n 2)))) (.s [82]) (.u .b2i (.u .not (.o .eq (.o .get (.v 0) (.n 1)) (.n 0))))) (.c .mset (.c .mset (.u .asm .nil) (.s [67, 85]) (.u .b2i (.u .not (.o .eq (.o .get (.v 0) (.n 0)) (.n 0))))) (.s [82]) (.u .b2i (.u .not (.o .eq (.o .get (.v 0) (.n 1)) (.n 0))))))⟩,
  ⟨[(.x (.u .not (.o .eq (.o .get (.v 0) (.n 1)) (.n 0)))), (.x (.u .not (.o .eq (.o .get (.v 0) (.n 0)) (.n 0))))], (.q (.u (.fld 0) (.u (.f 4) (.o .cons (.v 0) (.o .cons .nil (.o .cons (.v 3) (.o .cons (.v 4) (.o .cons (.v 5) (.o .cons (.v 7) .nil)))))))) (.u .b2i (.u .not (.o .eq (.u .b2i (.o .le (.u (.wrap .i16) (.o .get (.v 0) (.n 2))) (.n 0))) (.n 0)))))⟩,
  ⟨[(.x (.u .not (.o .eq (.o .get (.v 0) (.n 1)) (.n 0)))), (.x (.u .not (.o .eq (.o .get (.v 0) (.n 0)) (.n 0))))], (.q (.u (.fld 1) (.u (.f 4) (.o .cons (.v 0) (.o .cons .nil (.o .cons (.v 3) (.o .cons (.v 4) (.o .cons (.v 5) (.o .cons (.v 7) .nil)))))))) (.n 0))⟩,
  ⟨[(.x (.u .not (.o .eq (.o .get (.v 0) (.n 1)) (.n 0)))), (.x (.u .not (.o .eq (.o .get (.v 0) (.n 0)) (.n 0))))], (.q (.u (.fld 2) (.u (.f 4) (.o .cons (.v 0) (.o .cons .nil (.o .cons (.v 3) (.o .cons (.v 4) (.o .cons (.v 5) (.o .cons (.v 7) .nil)))))))) (.u .b2i (.u .not (.o .eq (.o .get (.v 0) (.n 0)) (.n 0)))))⟩,
  ⟨[(.x (.u .not (.o .eq (.o .get (.v 0) (.n 1)) (.n 0)))), (.x (.u .not (.o .eq (.o .get (.v 0) (.n 0)) (.n 0))))], (.q (.u (.fld 3) (.u (.f 4) (.o .cons (.v 0) (.o .cons .nil (.o .cons (.v 3) (.o .cons (.v 4) (.o .cons (.v 5) (.o .cons (.v 7) .nil)))))))) (.u (.wrap .i32) (.v 4)))⟩,
  ⟨[(.x (.u .not (.o .eq (.o .get (.v 0) (.n 1)) (.n 0)))), (.x (.u .not (.o .eq (.o .get (.v 0) (.n 0)) (.n 0))))], (.q (.u (.fld 4) (.u (.f 4) (.o .cons (.v 0) (.o .cons .nil (.o .cons (.v 3) (.o .cons (.v 4) (.o .cons (.v 5) (.o .cons (.v 7) .nil)))))))) (.u (.wrap .i32) (.v 5)))⟩,
  ⟨[(.x (.o .eq (.u (.wrap .i32) (.v 3)) (.n 0))), (.x (.o .eq (.o .get (.v 0) (.n 1)) (.n 0))), (.x (.u .not (.o .eq (.o .get (.v 0) (.n 0)) (.n 0))))], (.q (.u (.fld 0) (.u (.f 4) (.o .cons (.v 0) (.o .cons .nil (.o .cons (.v 3) (.o .cons (.v 4) (.o .cons (.v 5) (.o .cons (.v 7) .nil)))))))) (.u .b2i (.u .not (.o .eq (.u .b2i (.o .le (.u (.wrap .i16) (.o .get (.v 0) (.n 2))) (.n 1))) (.n 0)))))⟩,
  ⟨[(.x (.o .eq (.u (.wrap .i32) (.v 3)) (.n 0))), (.x (.o .eq (.o .get (.v 0) (.n 1)) (.n 0))), (.x (.u .not (.o .eq (.o .get (.v 0) (.n 0)) (.n 0))))], (.q (.u (.fld 1) (.u (.f 4) (.o .cons (.v 0) (.o .cons .nil (.o .cons (.v 3) (.o .cons (.v 4) (.o .cons (.v 5) (.o .cons (.v 7) .nil)))))))) (.n 1))⟩,
  ⟨[(.x (.o .eq (.u (.wrap .i32) (.v 3)) (.n 0))), (.x (.o .eq (.o .get (.v 0) (.n 1)) (.n 0))), (.x (.u .not (.o .eq (.o .get (.v 0) (.n 0)) (.n 0))))], (.q (.u (.fld 2) (.u (.f 4) (.o .cons (.v 0) (.o .cons .nil (.o .cons (.v 3) (.o .cons (.v 4) (.o .cons (.v 5) (.o .cons (.v 7) .nil)))))))) (.u .b2i (.u .not (.o .eq (.o .get (.v 0) (.n 0)) (.n 0)))))⟩,
  ⟨[(.x (.o .eq (.u (.wrap .i32) (.v 3)) (.n 0))), (.x (.o .eq (.o .get (.v 0) (.n 1)) (.n 0))), (.x (.u .not (.o .eq (.o .get (.v 0) (.n 0)) (.n 0))))], (.q (.u (.fld 3) (.u (.f 4) (.o .cons (.v 0) (.o .cons .nil (.o .cons (.v 3) (.o .cons (.v 4) (.o .cons (.v 5) (.o .cons (.v 7) .nil)))))))) (.u (.wrap .i32) (.v 4)))⟩,
  ⟨[(.x (.o .eq (.u (.wrap .i32) (.v 3)) (.n 0))), (.x (.o .eq (.o .get (.v 0) (.n 1)) (.n 0))), (.x (.u .not (.o .eq (.o .get (.v 0) (.n 0)) (.n 0))))], (.q (.u (.fld 4) (.u (.f 4) (.o .cons (.v 0) (.o .cons .nil (.o .cons (.v 3) (.o .cons (.v 4) (.o .cons (.v 5) (.o .cons (.v 7) .nil)))))))) (.u (.wrap .i32) (.v 5)))⟩,
  ⟨[(.x (.u .not (.o .eq (.u (.wrap .i32) (.v 3)) (.n 0)))), (.x (.o .eq (.o .get (.v 0) (.n 1)) (.n 0))), (.x (.u .not (.o .eq (.o .get (.v 0) (.n 0)) (.n 0))))], (.q (.u (.fld 0) (.u (.f 4) (.o .cons (.v 0) (.o .cons .nil (.o .cons (.v 3) (.o .cons (.v 4) (.o .cons (.v 5) (.o .cons (.v 7) .nil)))))))) (.u .b2i (.u .not (.o .eq (.u .b2i (.o .le (.u (.wrap .i16) (.o .get (.v 0) (.n 2))) (.n 0))) (.n 0)))))⟩,
  ⟨[(.x (.u .not (.o .eq (.u (.wrap .i32) (.v 3)) (.n 0)))), (.x (.o .eq (.o .get (.v 0) (.n 1)) (.n 0))), (.x (.u .not (.o .eq (.o .get (.v 0) (.n 0)) (.n 0))))], (.q (.u (.fld 1) (.u (.f 4) (.o .cons (.v 0) (.o .cons .nil (.o .cons (.v 3) (.o .cons (.v 4) (.o .cons (.v 5) (.o .cons (.v 7) .nil)))))))) (.n 0))⟩,
  ⟨[(.x (.u .not (.o .eq (.u (.wrap .i32) (.v 3)) (.n 0)))), (.x (.o .eq (.o .get (.v 0) (.n 1)) (.n 0))), (.x (.u .not (.o .eq (.o .get (.v 0) (.n 0)) (.n 0))))], (.q (.u (.fld 2) (.u (.f 4) (.o .cons (.v 0) (.o .cons .nil (.o .cons (.v 3) (.o .cons (.v 4) (.o .cons (.v 5) (.o .cons (.v 7) .nil)))))))) (.u .b2i (.u .not (.o .eq (.o .get (.v 0) (.n 0)) (.n 0)))))⟩,
  ⟨[(.x (.u .not (.o .eq (.u (.wrap .i32) (.v 3)) (.n 0)))), (.x (.o .eq (.o .get (.v 0) (.n 1)) (.n 0))), (.x (.u .not (.o .eq (.o .get (.v 0) (.n 0)) (.n 0))))], (.q (.u (.fld 3) (.u (.f 4) (.o .cons (.v 0) (.o .cons .nil (.o .cons (.v 3) (.o .cons (.v 4) (.o .cons (.v 5) (.o .cons (.v 7) .nil)))))))) (.u (.wrap .i32) (.v 4)))⟩,
  ⟨[(.x (.u .not (.o .eq (.u (.wrap .i32) (.v 3)) (.n 0)))), (.x (.o .eq (.o .get (.v 0) (.n 1)) (.n 0))), (.x (.u .not (.o .eq (.o .get (.v 0) (.n 0)) (.n 0))))], (.q (.u (.fld 4) (.u (.f 4) (.o .cons (.v 0) (.o .cons .nil (.o .cons (.v 3) (.o .cons (.v 4) (.o .cons (.v 5) (.o .cons (.v 7) .nil)))))))) (.u (.wrap .i32) (.v 5)))⟩,
  ⟨[(.x (.u .not (.o .eq (.o .get (.v 0) (.n 1)) (.n 0)))), (.x (.o .eq (.o .get (.v 0) (.n 0)) (.n 0)))], (.q (.u (.fld 0) (.u (.f 4) (.o .cons (.v 0) (.o .cons .nil (.o .cons (.v 3) (.o .cons (.v 4) (.o .cons (.v 5) (.o .cons (.v 7) .nil)))))))) (.u .b2i (.u .not (.o .eq (.u .b2i (.o .le (.u (.wrap .i16) (.o .get (.v 0) (.n 2))) (.n 0))) (.n 0)))))⟩,
  ⟨[(.x (.u .not (.o .eq (.o .get (.v 0) (.n 1)) (.n 0)))), (.x (.o .eq (.o .get (.v 0) (.n 0)) (.n 0)))], (.q (.u (.fld 1) (.u (.f 4) (.o .cons (.v 0) (.o .cons .nil (.o .cons (.v 3) (.o .cons (.v 4) (.o .cons (.v 5) (.o .cons (.v 7) .nil)))))))) (.n 0))⟩,
  ⟨[(.x (.u .not (.o .eq (.o .get (.v 0) (.n 1)) (.n 0)))), (.x (.o .eq (.o .get (.v 0) (.n 0)) (.n 0)))], (.q (.u (.fld 2) (.u (.f 4) (.o .cons (.v 0) (.o .cons .nil (.o .cons (.v 3) (.o .cons (.v 4) (.o .cons (.v 5) (.o .cons (.v 7) .nil)))))))) (.u .b2i (.u .not (.o .eq (.o .get (.v 0) (.n 0)) (.n 0)))))⟩,
  ⟨[(.x (.u .not (.o .eq (.o .get (.v 0) (.n 1)) (.n 0)))), (.x (.o .eq (.o .get (.v 0) (.n 0)) (.n 0)))], (.q (.u (.fld 3) (.u (.f 4) (.o .cons (.v 0) (.o .cons .nil (.o .cons (.v 3) (.o .cons (.v 4) (.o .cons (.v 5) (.o .cons (.v 7) .nil)))))))) (.u (.wrap .i32) (.v 4)))⟩,
  ⟨[(.x (.u .not (.o .eq (.o .get (.v 0) (.n 1)) (.n 0)))), (.x (.o .eq (.o .get (.v 0) (.n 0)) (.n 0)))], (.q (.u (.fld 4) (.u (.f 4) (.o .cons (.v 0) (.o .cons .nil (.o .cons (.v 3) (.o .cons (.v 4) (.o .cons (.v 5) (.o .cons (.v 7) .nil)))))))) (.u (.wrap .i32) (.v 5)))⟩,
  ⟨[(.x (.o .eq (.o .get (.v 0) (.n 1)) (.n 0))), (.x (.o .eq (.o .get (.v 0) (.n 0)) (.n 0)))], (.q (.u (.fld 0) (.u (.f 4) (.o .cons (.v 0) (.o .cons .nil (.o .cons (.v 3) (.o .cons (.v 4) (.o .cons (.v 5) (.o .cons (.v 7) .nil)))))))) (.u .b2i (.u .not (.o .eq (.u .b2i (.o .le (.u (.wrap .i16) (.o .get (.v 0) (.n 2))) (.n 0))) (.n 0)))))⟩,
  ⟨[(.x (.o .eq (.o .get (.v 0) (.n 1)) (.n 0))), (.x (.o .eq (.o .get (.v 0) (.n 0)) (.n 0)))], (.q (.u (.fld 1) (.u (.f 4) (.o .cons (.v 0) (.o .cons .nil (.o .cons (.v 3) (.o .cons (.v 4) (.o .cons (.v 5) (.o .cons (.v 7) .nil)))))))) (.n 0))⟩,
  ⟨[(.x (.o .eq (.o .get (.v 0) (.n 1)) (.n 0))), (.x (.o .eq (.o .get (.v 0) (.n 0)) (.n 0)))], (.q (.u (.fld 2) (.u (.f 4) (.o .cons (.v 0) (.o .cons .nil (.o .cons (.v 3) (.o .cons (.v 4) (.o .cons (.v 5) (.o .cons (.v 7) .nil)))))))) (.u .b2i (.u .not (.o .eq (.o .get (.v 0) (.n 0)) (.n 0)))))⟩,
  ⟨[(.x (.o .eq (.o .get (.v 0) (.n 1)) (.n 0))), (.x (.o .eq (.o .get (.v 0) (.n 0)) (.n 0)))], (.q (.u (.fld 3) (.u (.f 4) (.o .cons (.v 0) (.o .cons .nil (.o .cons (.v 3) (.o .cons (.v 4) (.o .cons (.v 5) (.o .cons (.v 7) .nil)))))))) (.u (.wrap .i32) (.v 4)))⟩,
  ⟨[(.x (.o .eq (.o .get (.v 0) (.n 1)) (.n 0))), (.x (.o .eq (.o .get (.v 0) (.n 0)) (.n 0)))], (.q (.u (.fld 4) (.u (.f 4) (.o .cons (.v 0) (.o .cons .nil (.o .cons (.v 3) (.o .cons (.v 4) (.o .cons (.v 5) (.o .cons (.v 7) .nil)))))))) (.u (.wrap .i32) (.v 5)))⟩]
theorem ctu_ft_run : runOne cS 100 16 (stepK sCTU 4 2 false true) (((stepK sCTU 4 2 false true)).outs.headD (.nilp, ((stepK sCTU 4 2 false true)).h)) = some ctu_ft_ob := by kernel_rfl
theorem ctu_ft_all {I : Interp} (hI : ∀ u, I.f 4 u = fbF 4 u) (w : World) : ∀ o ∈ ctu_ft_ob, o.ok ⟨w, I⟩ := by
  unfold ctu_ft_ob
  simp only [List.forall_mem_cons, List.not_mem_nil, false_implies, implies_true, and_true]
  refine ⟨?_, ?_, ?_, ?_, ?_, ?_, ?_, ?_, ?_, ?_, ?_, ?_, ?_, ?_, ?_, ?_, ?_, ?_, ?_, ?_, ?_, ?_, ?_, ?_, ?_, ?_, ?_, ?_⟩
  · intro ρ hf _ hfs
    have hF : ∀ u, ρ.f 4 u = fbF 4 u := fun u => by rw [hf]; exact hI u
    simp only [List.forall_mem_cons, List.not_mem_nil, false_implies, implies_true, and_true, Fact.ok, X.den, den_not, den_b2i, den_wrap, den_get, den_lt, den_le, den_eq, den_min, den_max, den_add, den_sub, den_len, den_cons, den_mset, asB_b, asI_i, asL_l, asS_s, Bool.not_eq_true', ilt_iff, ile_iff, ieq_iff, ilt_f, ile_f, ieq_f, w32_def, w16_def, w64_def] at hfs
    simp only [Fact.ok, X.den, den_not, den_b2i, den_wrap, den_get, den_lt, den_le, den_eq, den_min, den_max, den_add, den_sub, den_len, den_cons, den_mset, den_asm, den_f1, hF, asB_b, asI_i, asL_l, asS_s, asM_m, fbF, arg1, fld_step, List.getD_cons_zero, List.getD_cons_succ, getD_asI, Bool.not_eq_true', ilt_iff, ile_iff, ieq_iff, ilt_f, ile_f, ieq_f, w32_def, w16_def, w64_def, w32_w64]
    clear hF hf
    refine congrArg U.m (funext fun q => ?_)
    simp only [getD_pastI hfs, asI_default, w32_zero, w16_zero, not_true, if_false, k_CU, k_R, k_PV, k_Q, k_CV]
    by_cases hq : q = [67, 85]
    · subst hq; rfl
    · simp only [hq, if_false]
  · intro ρ hf _ hfs
    have hF : ∀ u, ρ.f 4 u = fbF 4 u := fun u => by rw [hf]; exact hI u
    simp only [List.forall_mem_cons, List.not_mem_nil, false_implies, implies_true, and_true, Fact.ok, X.den, den_not, den_b2i, den_wrap, den_get, den_lt, den_le, den_eq, den_min, den_max, den_add, den_sub, den_len, den_cons, den_mset, asB_b, asI_i, asL_l, asS_s, Bool.not_eq_true', ilt_iff, ile_iff, ieq_iff, ilt_f, ile_f, ieq_f, w32_def, w16_def, w64_def] at hfs
    simp only [Fact.ok, X.den, den_not, den_b2i, den_wrap, den_get, den_lt, den_le, den_eq, den_min, den_max, den_add, den_sub, den_len, den_cons, den_mset, den_asm, den_f1, hF, asB_b, asI_i, asL_l, asS_s, asM_m, fbF, arg1, fld_step, List.getD_cons_zero, List.getD_cons_succ, getD_asI, Bool.not_eq_true', ilt_iff, ile_iff, ieq_iff, ilt_f, ile_f, ieq_f, w32_def, w16_def, w64_def, w32_w64]
    clear hF hf
    refine congrArg U.m (funext fun q => ?_)
    simp only [getD_pastI hfs, asI_default, w32_zero, w16_zero, not_true, if_false, k_CU, k_R, k_PV, k_Q, k_CV]
    by_cases hq : q = [82]
    · subst hq; rfl
    · simp only [hq, if_false]
  · intro ρ hf _ hfs
    have hF : ∀ u, ρ.f 4 u = fbF 4 u := fun u => by rw [hf]; exact hI u
    simp only [List.forall_mem_cons, List.not_mem_nil, false_implies, implies_true, and_true, Fact.ok, X.den, den_not, den_b2i, den_wrap, den_get, den_lt, den_le, den_eq, den_min, den_max, den_add, den_sub, den_len, den_cons, den_mset, asB_b, asI_i, asL_l, asS_s, Bool.not_eq_true', ilt_iff, ile_iff, ieq_iff, ilt_f, ile_f, ieq_f, w32_def, w16_def, w64_def] at hfs
    simp only [Fact.ok, X.den, den_not, den_b2i, den_wrap, den_get, den_lt, den_le, den_eq, den_min, den_max, den_add, den_sub, den_len, den_cons, den_mset, den_asm, den_f1, hF, asB_b, asI_i, asL_l, asS_s, asM_m, fbF, arg1, fld_step, List.getD_cons_zero, List.getD_cons_succ, getD_asI, Bool.not_eq_true', ilt_iff, ile_iff, ieq_iff, ilt_f, ile_f, ieq_f, w32_def, w16_def, w64_def, w32_w64]
    clear hF hf
    refine congrArg U.m (funext fun q => ?_)
    simp only [getD_pastI hfs, asI_default, w32_zero, w16_zero, not_true, if_false, k_CU, k_R, k_PV, k_Q, k_CV]
    by_cases hq : q = [80, 86]
    · subst hq; rfl
    · simp only [hq, if_false]
  all_goals
    intro ρ hf _ hfs
    have hF : ∀ u, ρ.f 4 u = fbF 4 u := fun u => by rw [hf]; exact hI u
    simp only [List.forall_mem_cons, List.not_mem_nil, false_implies, implies_true, and_true, Fact.ok, X.den, den_not, den_b2i, den_wrap, den_get, den_lt, den_le, den_eq, den_min, den_max, den_add, den_sub, den_len, den_cons, den_mset, asB_b, asI_i, asL_l, asS_s, Bool.not_eq_true', ilt_iff, ile_iff, ieq_iff, ilt_f, ile_f, ieq_f, w32_def, w16_def, w64_def] at hfs
    simp only [Fact.ok, X.den, den_not, den_b2i, den_wrap, den_get, den_lt, den_le, den_eq, den_min, den_max, den_add, den_sub, den_len, den_cons, den_mset, den_asm, den_f1, hF, asB_b, asI_i, asL_l, asS_s, asM_m, fbF, arg1, fld_step, List.getD_cons_zero, List.getD_cons_succ, getD_asI, Bool.not_eq_true', ilt_iff, ile_iff, ieq_iff, ilt_f, ile_f, ieq_f, w32_def, w16_def, w64_def, w32_w64]
    clear hF hf
    refine congrArg U.i ?_
    try simp only [tn0, tn1, tn2, tn3, tn4, w32_w64, Int.sub_self, w32_zero, max00, min0m] at hfs
    simp only [ctuZ, nz, ne_eq, getD_asI, tn0, tn1, tn2, tn3, tn4, w64_up, w64_dn, w32_max0, w32_et, w16_inc, w16_dec, w16_w16, w32_w32, Int.sub_self, w32_zero, max00, min0m, w32_et0, shown]
    simp [-List.getD_eq_getElem?_getD, List.getD_cons_zero, List.getD_cons_succ, hfs, tr, shown, asI_default, w16_zero, w32_zero, min0m, max00, w32_et, w32_max0, w32_et0]
    try omega
theorem ctu_ft_ok {I : Interp} (hI : ∀ u, I.f 4 u = fbF 4 u) : CtrOk Tryd.prog I 16 (stepK sCTU 4 2 false true) := .one (cS_ok I) (by kernel_rfl) ctu_ft_run List.mem_cons_self (ctu_ft_all hI)
def ctu_tf_ob : List Obl := [⟨[(.x (.u .not (.o .lt (.n 0) (.u .len (.v 1)))))], (.q (.c .mset (.u .asm .nil) (.s [81]) (.u .b2i (.u .not (.o .eq (.o .get (.v 1) (.n 0)) (.n 0))))) (.u .asm .nil))⟩,
  ⟨[(.x (.u .not (.o .lt (.n 1) (.u .len (.v 1)))))], (.q (.c .mset (.c .mset (.u .asm .nil) (.s [67, 86]) (.u (.wrap .i16) (.o .get (.v 1) (.n 1)))) (.s [81]) (.u .b2i (.u .not (.o .eq (.o .get (.v 1) (.n 0)) (.n 0))))) (.c .mset (.u .asm .nil) (.s [81]) (.u .b2i (.u .not (.o .eq (.o .get (.v 1) (.n 0)) (.n 0))))))⟩,
  ⟨[], (.q (.u (.fld 0) (.u (.f 4) (.o .cons .nil (.o .cons (.v 1) (.o .cons (.v 3) (.o .cons (.v 4) (.o .cons (.v 5) (.o .cons (.v 7) .nil)))))))) (.u .b2i (.u .not (.o .eq (.u .b2i (.o .le (.n 0) (.u (.wrap .i16) (.o .get (.v 1) (.n 1))))) (.n 0)))))⟩,
  ⟨[], (.q (.u (.fld 1) (.u (.f 4) (.o .cons .nil (.o .cons (.v 1) (.o .cons (.v 3) (.o .cons (.v 4) (.o .cons (.v 5) (.o .cons (.v 7) .nil)))))))) (.u (.wrap .i16) (.u (.wrap .i16) (.o .get (.v 1) (.n 1)))))⟩,
  ⟨[], (.q (.u (.fld 2) (.u (.f 4) (.o .cons .nil (.o .cons (.v 1) (.o .cons (.v 3) (.o .cons (.v 4) (.o .cons (.v 5) (.o .cons (.v 7) .nil)))))))) (.n 0))⟩,
  ⟨[], (.q (.u (.fld 3) (.u (.f 4) (.o .cons .nil (.o .cons (.v 1) (.o .cons (.v 3) (.o .cons (.v 4) (.o .cons (.v 5) (.o .cons (.v 7) .nil)))))))) (.u (.wrap .i32) (.v 4)))⟩,
  ⟨[], (.q (.u (.fld 4) (.u (.f 4) (.o .cons .nil (.o .cons (.v 1) (.o .cons (.v 3) (.o .cons (.v 4) (.o .cons (.v 5) (.o .cons (.v 7) .nil)))))))) (.u (.wrap .i32) (.v 5)))⟩]
theorem ctu_tf_run : runOne cS 100 16 (stepK sCTU 4 2 true false) (((stepK sCTU 4 2 true false)).outs.headD (.nilp, ((stepK sCTU 4 2 true false)).h)) = some ctu_tf_ob := by kernel_rfl
theorem ctu_tf_all {I : Interp} (hI : ∀ u, I.f 4 u = fbF 4 u) (w : World) : ∀ o ∈ ctu_tf_ob, o.ok ⟨w, I⟩ := by
  unfold ctu_tf_ob
  simp only [List.forall_mem_cons, List.not_mem_nil, false_implies, implies_true, and_true]
  refine ⟨?_, ?_, ?_, ?_, ?_, ?_, ?_⟩
  · intro ρ hf _ hfs
    have hF : ∀ u, ρ.f 4 u = fbF 4 u := fun u => by rw [hf]; exact hI u
    simp only [List.forall_mem_cons, List.not_mem_nil, false_implies, implies_true, and_true, Fact.ok, X.den, den_not, den_b2i, den_wrap, den_get, den_lt, den_le, den_eq, den_min, den_max, den_add, den_sub, den_len, den_cons, den_mset, asB_b, asI_i, asL_l, asS_s, Bool.not_eq_true', ilt_iff, ile_iff, ieq_iff, ilt_f, ile_f, ieq_f, w32_def, w16_def, w64_def] at hfs
    simp only [Fact.ok, X.den, den_not, den_b2i, den_wrap, den_get, den_lt, den_le, den_eq, den_min, den_max, den_add, den_sub, den_len, den_cons, den_mset, den_asm, den_f1, hF, asB_b, asI_i, asL_l, asS_s, asM_m, fbF, arg1, fld_step, List.getD_cons_zero, List.getD_cons_succ, getD_asI, Bool.not_eq_true', ilt_iff, ile_iff, ieq_iff, ilt_f, ile_f, ieq_f, w32_def, w16_def, w64_def, w32_w64]
    clear hF hf
    refine congrArg U.m (funext fun q => ?_)
    simp only [getD_pastI hfs, asI_default, w32_zero, w16_zero, not_true, if_false, k_CU, k_R, k_PV, k_Q, k_CV]
    by_cases hq : q = [81]
    · subst hq; rfl
    · simp only [hq, if_false]
  · intro ρ hf _ hfs
    have hF : ∀ u, ρ.f 4 u = fbF 4 u := fun u => by rw [hf]; exact hI u
    simp only [List.forall_mem_cons, List.not_mem_nil, false_implies, implies_true, and_true, Fact.ok, X.den, den_not, den_b2i, den_wrap, den_get, den_lt, den_le, den_eq, den_min, den_max, den_add, den_sub, den_len, den_cons, den_mset, asB_b, asI_i, asL_l, asS_s, Bool.not_eq_true', ilt_iff, ile_iff, ieq_iff, ilt_f, ile_f, ieq_f, w32_def, w16_def, w64_def] at hfs
    simp only [Fact.ok, X.den, den_not, den_b2i, den_wrap, den_get, den_lt, den_le, den_eq, den_min, den_max, den_add, den_sub, den_len, den_cons, den_mset, den_asm, den_f1, hF, asB_b, asI_i, asL_l, asS_s, asM_m, fbF, arg1, fld_step, List.getD_cons_zero, List.getD_cons_succ, getD_asI, Bool.not_eq_true', ilt_iff, ile_iff, ieq_iff, ilt_f, ile_f, ieq_f, w32_def, w16_def, w64_def, w32_w64]
    clear hF hf
    refine congrArg U.m (funext fun q => ?_)
    simp only [getD_pastI hfs, asI_default, w32_zero, w16_zero, not_true, if_false, k_CU, k_R, k_PV, k_Q, k_CV]
    by_cases hq : q = [67, 86]
    · subst hq; rfl
    · simp only [hq, if_false]
  all_goals
    intro ρ hf _ hfs
    have hF : ∀ u, ρ.f 4 u = fbF 4 u := fun u => by rw [hf]; exact hI u
    simp only [List.forall_mem_cons, List.not_mem_nil, false_implies, implies_true, and_true, Fact.ok, X.den, den_not, den_b2i, den_wrap, den_get, den_lt, den_le, den_eq, den_min, den_max, den_add, den_sub, den_len, den_cons, den_mset, asB_b, asI_i, asL_l, asS_s, Bool.not_eq_true', ilt_iff, ile_iff, ieq_iff, ilt_f, ile_f, ieq_f, w32_def, w16_def, w64_def] at hfs
    simp only [Fact.ok, X.den, den_not, den_b2i, den_wrap, den_get, den_lt, den_le, den_eq, den_min, den_max, den_add, den_sub, den_len, den_cons, den_mset, den_asm, den_f1, hF, asB_b, asI_i, asL_l, asS_s, asM_m, fbF, arg1, fld_step, List.getD_cons_zero, List.getD_cons_succ, getD_asI, Bool.not_eq_true', ilt_iff, ile_iff, ieq_iff, ilt_f, ile_f, ieq_f, w32_def, w16_def, w64_def, w32_w64]
    clear hF hf
    refine congrArg U.i ?_
    try simp only [tn0, tn1, tn2, tn3, tn4, w32_w64, Int.sub_self, w32_zero, max00, min0m] at hfs
    simp only [ctuZ, nz, ne_eq, getD_asI, tn0, tn1, tn2, tn3, tn4, w64_up, w64_dn, w32_max0, w32_et, w16_inc, w16_dec, w16_w16, w32_w32, Int.sub_self, w32_zero, max00, min0m, w32_et0, shown]
    simp [-List.getD_eq_getElem?_getD, List.getD_cons_zero, List.getD_cons_succ, hfs, tr, shown, asI_default, w16_zero, w32_zero, min0m, max00, w32_et, w32_max0, w32_et0]
    try omega
theorem ctu_tf_ok {I : Interp} (hI : ∀ u, I.f 4 u = fbF 4 u) : CtrOk Tryd.prog I 16 (stepK sCTU 4 2 true false) := .one (cS_ok I) (by kernel_rfl) ctu_tf_run List.mem_cons_self (ctu_tf_all hI)
def ctu_tt_ob : List Obl := [⟨[], (.q (.u (.fld 0) (.u (.f 4) (.o .cons .nil (.o .cons .nil (.o .cons (.v 3) (.o .cons (.v 4) (.o .cons (.v 5) (.o .cons (.v 7) .nil)))))))) (.n 1))⟩,
  ⟨[], (.q (.u (.fld 1) (.u (.f 4) (.o .cons .nil (.o .cons .nil (.o .cons (.v 3) (.o .cons (.v 4) (.o .cons (.v 5) (.o .cons (.v 7) .nil)))))))) (.n 0))⟩,
  ⟨[], (.q (.u (.fld 2) (.u (.f 4) (.o .cons .nil (.o .cons .nil (.o .cons (.v 3) (.o .cons (.v 4) (.o .cons (.v 5) (.o .cons (.v 7) .nil)))))))) (.n 0))⟩,
  ⟨[], (.q (.u (.fld 3) (.u (.f 4) (.o .cons .nil (.o .cons .nil (.o .cons (.v 3) (.o .cons (.v 4) (.o .cons (.v 5) (.o .cons (.v 7) .nil)))))))) (.u (.wrap .i32) (.v 4)))⟩,
  ⟨[], (.q (.u (.fld 4) (.u (.f 4) (.o .cons .nil (.o .cons .nil (.o .cons (.v 3) (.o .cons (.v 4) (.o .cons (.v 5) (.o .cons (.v 7) .nil)))))))) (.u (.wrap .i32) (.v 5)))⟩]
theorem ctu_tt_run : runOne cS 100 16 (stepK sCTU 4 2 true true) (((stepK sCTU 4 2 true true)).outs.headD (.nilp, ((stepK sCTU 4 2 true true)).h)) = some ctu_tt_ob := by kernel_rfl
theorem ctu_tt_all {I : Interp} (hI : ∀ u, I.f 4 u = fbF 4 u) (w : World) : ∀ o ∈ ctu_tt_ob, o.ok ⟨w, I⟩ := by
  unfold ctu_tt_ob
  simp only [List.forall_mem_cons, List.not_mem_nil, false_implies, implies_true, and_true]
  refine ⟨?_, ?_, ?_, ?_, ?_⟩
  all_goals
    intro ρ hf _ hfs
    have hF : ∀ u, ρ.f 4 u = fbF 4 u := fun u => by rw [hf]; exact hI u
    simp only [List.forall_mem_cons, List.not_mem_nil, false_implies, implies_true, and_true, Fact.ok, X.den, den_not, den_b2i, den_wrap, den_get, den_lt, den_le, den_eq, den_min, den_max, den_add, den_sub, den_len, den_cons, den_mset, asB_b, asI_i, asL_l, asS_s, Bool.not_eq_true', ilt_iff, ile_iff, ieq_iff, ilt_f, ile_f, ieq_f, w32_def, w16_def, w64_def] at hfs
    simp only [Fact.ok, X.den, den_not, den_b2i, den_wrap, den_get, den_lt, den_le, den_eq, den_min, den_max, den_add, den_sub, den_len, den_cons, den_mset, den_asm, den_f1, hF, asB_b, asI_i, asL_l, asS_s, asM_m, fbF, arg1, fld_step, List.getD_cons_zero, List.getD_cons_succ, getD_asI, Bool.not_eq_true', ilt_iff, ile_iff, ieq_iff, ilt_f, ile_f, ieq_f, w32_def, w16_def, w64_def, w32_w64]
    clear hF hf
    refine congrArg U.i ?_
    try simp only [tn0, tn1, tn2, tn3, tn4, w32_w64, Int.sub_self, w32_zero, max00, min0m] at hfs
    simp only [ctuZ, nz, ne_eq, getD_asI, tn0, tn1, tn2, tn3, tn4, w64_up, w64_dn, w32_max0, w32_et, w16_inc, w16_dec, w16_w16, w32_w32, Int.sub_self, w32_zero, max00, min0m, w32_et0, shown]
    simp [-List.getD_eq_getElem?_getD, List.getD_cons_zero, List.getD_cons_succ, hfs, tr, shown, asI_default, w16_zero, w32_zero, min0m, max00, w32_et, w32_max0, w32_et0]
    try omega
theorem ctu_tt_ok {I : Interp} (hI : ∀ u, I.f 4 u = fbF 4 u) : CtrOk Tryd.prog I 16 (stepK sCTU 4 2 true true) := .one (cS_ok I) (by kernel_rfl) ctu_tt_run List.mem_cons_self (ctu_tt_all hI)
end Go.Proofs.YtkphkjffcpkhjaaDoor
end
/-! known: it tells true. -/
noncomputable section
set_option linter.unusedSimpArgs false
set_option linter.unusedVariables false
namespace Go.Proofs.YtkphkjffcpkhjaaDoor
open Go Go.SE
set_option maxRecDepth 1000000
theorem bookN_ok {I : Interp} (h1 : ∀ u, I.f 1 u = fbF 1 u) (h4 : ∀ u, I.f 4 u = fbF 4 u) : BookOk Tryd.prog I bookN := by
  intro q hq
  simp only [bookN, List.mem_cons, List.not_mem_nil, or_false] at hq
  subst hq
  simp only [List.forall_mem_cons, List.not_mem_nil, false_implies, implies_true, and_true]
  exact ⟨ton_ft_ok h1, ton_ff_ok h1, ctu_ft_ok h4, ctu_ff_ok h4⟩
def cN : Ctx := ctxOf bookN fun _ _ _ => none
theorem known_chk : chkOne fbF cN 100 12 knownK (knownK.outs.headD (.nilp, knownK.h)) = true := by kernel_rfl
theorem known_ok {I : Interp} (hI : I.f = fbF) : CtrOk Tryd.prog I 12 knownK :=
  .chk (ctx_ok (bookN_ok (fun u => by rw [hI]) fun u => by rw [hI])) (by kernel_rfl) known_chk hI List.mem_cons_self
end Go.Proofs.YtkphkjffcpkhjaaDoor
end
