/- FbEver: called with any list of numbers and any time, the law tells true, and each argument reads behind the call as it read before. Conditions: those of the given row: the two listed variables read as the program lays them (the card ties that to its text). -/
import Derived.Test.YtkphkjffcpkhjaaDoorSeR1
import Derived.Test.YtkphkjffcpkhjaaDoorSeL2
import Derived.SevenTiedAt
/-! FbEver: the row, the card. -/
noncomputable section
set_option linter.unusedSimpArgs false
set_option linter.unusedVariables false
namespace Go.Proofs.YtkphkjffcpkhjaaDoor
open Go Go.SE
open Go.ChangeShapes Go.WideShapes Go.ChangeAt Go.RowKit
set_option maxRecDepth 1000000
theorem told_true {I : Interp} {h : H} {W w' : World} {ρ : Env} {σ : Pl} {c : Ctr} (hc : c.outs = [(.bool (.t true), h)]) {e : Ending}
    (he : ∃ q ∈ c.outs, ∃ ρ' σ' v, e = .returned v ∧ Ext c.h ρ ρ' σ σ' ∧ c.h.le q.2 ∧ HRep ⟨W, I⟩ W.heap.size ρ' σ' q.2 w' ∧ VRep ρ' σ' q.2 [q.1] [v]) : e = .returned (.bool true) ∧ Below W.heap.size W w' := by
  obtain ⟨q, hq, ρ', σ', v, rfl, _, _, h4, h5⟩ := he
  rw [hc, List.mem_singleton] at hq
  subst hq
  have := h5 _ _ (Ext.refl _ _ _)
  simp only [List.map_cons, List.map_nil, SV.val, X.den, asB_b, List.cons.injEq, and_true] at this
  exact ⟨by rw [← this], h4.now.below⟩
theorem ever_nil {W : World} (hl : ∀ i, i < 256 → W.cell? ⟨1, i, none⟩ = some (.int .u8 (asciiAt i))) (h1 : 1 < W.heap.size) (n : Int) :
    Calls Tryd.prog 7 #[.slice none 0 0, .int .i64 n] W fun e w' => e = .returned (.bool true) ∧ Below W.heap.size W w' := by
  let ρ : Env := ⟨fun i => match i with | 2 => .i n | 0 => .l [] | _ => default, fbF, pEver⟩
  let σ : Pl := fun _ => (0, 0)
  refine (ever_ok true ⟨W, IE⟩ rfl W.heap.size ρ σ W [.slice none 0 0, .int .i64 n] (HRep.views (by rfl) ⟨⟨rfl, rfl⟩, lay_ok (fun _ => rfl) hl h1, Below.refl _ _, Nat.le_refl _, fun b k hk => (by cases hk), fun b c k l hb => (by cases hb), fun f hf => ?_⟩) fun ρ' σ' he => ?_).mono fun e w' h => told_true rfl h
  · simp only [everK, List.mem_cons, List.not_mem_nil, or_false] at hf
    rcases hf with rfl | rfl
    · intro u hu; cases hu
    · rfl
  · have e2 : ρ'.v 2 = .i n := he.v 2 (Or.inl (by decide))
    simp [everK, SV.val, X.den, e2]
theorem ever_row {W : World} (hl : ∀ i, i < 256 → W.cell? ⟨1, i, none⟩ = some (.int .u8 (asciiAt i))) (h1 : 1 < W.heap.size) (n : Int) {b off len cap : Nat} {zs : List Int} (hb : b < W.heap.size) (hz : zs.length = len)
    (hc : ∀ i, i < len → W.cell? ⟨b, off + i, none⟩ = some (.int .u32 (zs.getD i 0))) (hr : ∀ n ∈ zs, IntKind.u32.min ≤ n ∧ n ≤ IntKind.u32.max) :
    Calls Tryd.prog 7 #[.slice (some ⟨b, off, none⟩) len cap, .int .i64 n] W fun e w' => e = .returned (.bool true) ∧ Below W.heap.size W w' := by
  let ρ : Env := ⟨fun i => match i with | 0 => .l (zs.map U.i) | 1 => .i cap | 2 => .i n | _ => default, fbF, pEver⟩
  let σ : Pl := fun _ => (b, off)
  refine (ever_ok false ⟨W, IE⟩ rfl W.heap.size ρ σ W [.slice (some ⟨b, off, none⟩) len cap, .int .i64 n] (HRep.views (by rfl) ⟨⟨rfl, rfl⟩, lay_ok (fun _ => rfl) hl h1, Below.refl _ _, Nat.le_refl _, fun i k hk => ?_, fun i c k l hb' hc' ok => ?_, fun f hf => ?_⟩) fun ρ' σ' he => ?_).mono fun e w' h => told_true rfl h
  · simp only [everK, cond_false, fget_cons, fget_nil] at hk
    cases h0 : Nat.beq 0 i with
    | false => rw [h0] at hk; cases hk
    | true =>
      rw [h0] at hk
      cases hk
      refine ⟨hb, fun r j k hr' hj => ?_⟩
      have hj0 : j = 0 := by have := (List.getElem?_eq_some_iff.1 hj).1; simpa using this
      subst hj0
      simp only [List.getElem?_cons_zero, Option.some.injEq] at hj
      subst hj
      have hr2 : r < zs.length := by
        have : (X.den ρ (.v 0)).asL.length = zs.length := by show (zs.map U.i).length = _; simp
        rw [this] at hr'; exact hr'
      have := hc r (by omega)
      show W.cell? ⟨b, off + (r * 1 + 0), none⟩ = some (.int .u32 (rowU 1 ((zs.map U.i).getD r default) 0).asI)
      rw [Nat.mul_one, Nat.add_zero, this]
      simp [rowU, List.getD_eq_getElem?_getD, hr2]
  · simp only [everK, cond_false, fget_cons, fget_nil] at hb'
    cases h0 : Nat.beq 0 i with
    | false => rw [h0] at hb'; cases hb'
    | true => rw [h0] at hb'; cases hb'; cases ok
  · simp only [everK, List.mem_cons, List.not_mem_nil, or_false] at hf
    rcases hf with rfl | rfl
    · intro u hu
      have hu' : u ∈ zs.map U.i := hu
      rw [List.mem_map] at hu'
      obtain ⟨z, hz', rfl⟩ := hu'
      have := hr z hz'
      have e1 : IntKind.u32.min = 0 := by decide
      have e2 : IntKind.u32.max = 4294967295 := by decide
      rw [e1, e2] at this
      exact this
    · rfl
  · have e0 : ρ'.v 0 = .l (zs.map U.i) := he.v 0 (Or.inl (by decide))
    have e1 : ρ'.v 1 = .i cap := he.v 1 (Or.inl (by decide))
    have e2 : ρ'.v 2 = .i n := he.v 2 (Or.inl (by decide))
    have eb : σ' 0 = (b, off) := he.b 0 (Or.inl (by decide))
    simp [everK, SV.val, X.nat, X.den, den_len, adr, e0, e1, e2, eb, hz]

theorem ever_door (os : Os) (args : Array Value) : laidMetH Tryd.prog Rows.fbEverRow.laid ((World.doorLaid Tryd.prog 400 os).forCall (fun _ _ => 0) ⟨#[], args, []⟩).memory :=
  laidMetH_of_parts3 (fuel := 8) (laidMet_of_run' 8 (by kernel_rfl) (by kernel_rfl)) (by kernel_rfl) (by kernel_rfl)
theorem ever_lifted (os : Os) (started : os.Started) (H : Type) (enc : TypeId × Value → H) :
    ReturnsInHanded {} Tryd.checked os 7 .any (fun w args => (Rows.fbEverSpec.pre enc Tryd.prog Tryd.f7 [] false w args ∧ laidMetH Tryd.prog Rows.fbEverRow.laid w) ∧ sizedMet enc Tryd.prog Tryd.f7 (OpenSpec.ofChange Rows.fbEverSpec) false w args)
      (Rows.fbEverSpec.post enc Tryd.prog Tryd.f7 false true false false) := by
  refine returnsInHanded_of_change_and (C := Tryd.checked) (X := fun w _ => laidMetH Tryd.prog Rows.fbEverRow.laid w) (fun _ _ _ hh h => h.of_heap hh) own started (by kernel_rfl) Tryd.func7
    (ChangeSpec.witness_shaped (enc := enc) (C := Tryd.checked) (os := os) (X := fun w _ => laidMetH Tryd.prog Rows.fbEverRow.laid w) false (World.doorLaid Tryd.prog 400 os) #[.slice none 0 0, .int .i64 0] 8 rfl (World.shaped_of_RefB (by kernel_rfl) (by kernel_rfl)) (by kernel_rfl) (by kernel_rfl) (by kernel_rfl) (ever_door os _)) ?_
  intro W base args ds gs before hval0 hW _ _ hL _
  have hval : ∀ (j : Nat) t v, Tryd.f7.params[j]? = some t → args[j]? = some v → Value.okWide Tryd.prog W .any base t v := hval0
  have hW' := hW
  obtain ⟨p, q, hA0, hV, rfl, hfz, hnd⟩ := hW
  have hA : DataW.TrodAll enc Tryd.prog W 0 (fun _ => true) true Tryd.f7.params.toList args.toList ds p := hA0
  rw [Tryd.params7] at hA hval
  obtain ⟨v0, v1, d0, d1, p0, p1, rfl, rfl, rfl, h0, h1⟩ := trodAll_two hA
  have hlaid := of_laid hL
  have hsz : 1 < W.heap.size := below_cell (hlaid 0 (by decide))
  obtain ⟨rfl, rfl⟩ := trodVars_none hV
  obtain ⟨n, rfl, _, _, _⟩ := open_int Tryd.underlying2 (hval 1 2 v1 rfl rfl) h1
  have fin : ∀ e w', e = Ending.returned (.bool true) ∧ Below W.heap.size W w' → ∃ v, e = .returned v ∧ Rows.fbEverSpec.post enc Tryd.prog Tryd.f7 false true false false W #[v0, .int .i64 n] v w' := by
    rintro e w' ⟨rfl, hb⟩
    exact ⟨_, rfl, law_post laidOut hW' rfl (by rw [Tryd.params7]; intro t ht; simp only [List.mem_cons, List.not_mem_nil, or_false] at ht; rcases ht with rfl | rfl <;> exact ⟨by kernel_rfl, of_decide_eq_true (by kernel_rfl)⟩) (by rfl) (tb := 4) rfl Tryd.underlying4 hb⟩
  rcases open_nums Tryd.underlying45 Tryd.underlying46 (by kernel_rfl) (hval 0 45 v0 rfl rfl) h0 with rfl | ⟨b, off, len, cap, zs, rfl, k1, k2, k3, k4, k5, k6⟩
  · exact (ever_nil hlaid hsz n).mono fun e w' h => fin e w' h
  · exact (ever_row hlaid hsz n k1 k3 k5 k6).mono fun e w' h => fin e w' h
theorem fbEver_holds : Rows.FbEverSaid :=
  OpenClaim.holds_of_wide 7 Tryd.f7 rfl rfl rfl rfl rfl rfl rfl ⟨rfl, rfl, rfl, rfl, rfl⟩ rfl rfl rfl rfl rfl (by kernel_rfl) Tryd.func7 (by kernel_rfl)
    (of_decide_eq_true (by kernel_rfl)) (by unfold Func.isWrapper; first | (rw [if_pos (by decide +kernel)]; kernel_rfl) | (rw [if_neg (by decide +kernel)]; exact ⟨rfl, rfl⟩))
    (fun os started H enc _ => ever_lifted os started H enc)
theorem fbEver_card : Rows.FbEverCardSaid :=
  Claim7.holds_tied_plain_at .later [] [.listed, .data] true (true, "09fda92184a8400bbd2e43ac71c688daac006d731d374876dc34d34786d9df8f") true
    fbEver_holds (fun _ h => by cases h) (by kernel_rfl) (fun _ h => by cases h) fbEver_row_tie rfl ⟨rfl, rfl⟩ (by kernel_rfl) rfl
    (fun f fn hf hfn => by
      obtain rfl : f = 7 := Option.some.inj ((show Tryd.prog.funcNamed "rung/runglaw17.FbEver" = some 7 by kernel_rfl).symm.trans hf) |>.symm
      obtain rfl : fn = Tryd.f7 := (Option.some.inj (Tryd.func7.symm.trans hfn)).symm
      exact ⟨by kernel_rfl, fun j t ht => by
        rw [Tryd.params7] at ht
        have hm : t ∈ [45, 2] := by simpa using Array.mem_of_getElem? ht
        have hall : ([45, 2].all fun u => !Tryd.prog.wantsStandIn u) = true := by kernel_rfl
        exact (show Tryd.prog.wantsStandIn t = false by simpa using List.all_eq_true.1 hall t hm)⟩)
    (by kernel_rfl)
end Go.Proofs.YtkphkjffcpkhjaaDoor
end
#print axioms Go.Proofs.YtkphkjffcpkhjaaDoor.fbEver_card
