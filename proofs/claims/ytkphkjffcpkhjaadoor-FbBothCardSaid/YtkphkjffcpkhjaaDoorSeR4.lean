/- FbBoth: called with any numbers and any list of fours of truth values, the law tells true, and each argument reads behind the call as it read before. Conditions: those of the given row: the two listed variables read as the program lays them (the card ties that to its text). -/
import Derived.Test.YtkphkjffcpkhjaaDoorSeR1
import Derived.Test.YtkphkjffcpkhjaaDoorSeL4
import Derived.SevenTiedAt
/-! FbBoth: the row, the card. -/
noncomputable section
set_option linter.unusedSimpArgs false
set_option linter.unusedVariables false
namespace Go.Proofs.YtkphkjffcpkhjaaDoor
open Go Go.SE
open Go.ChangeShapes Go.WideShapes Go.ChangeAt Go.RowKit
set_option maxRecDepth 1000000
theorem fbBoth_nil {W : World} (hl : ∀ i, i < 256 → W.cell? ⟨1, i, none⟩ = some (.int .u8 (asciiAt i))) (h1 : 1 < W.heap.size) (n1 n2 : Int) :
    Calls Tryd.prog 6 #[.slice none 0 0, .int .i64 n1, .int .i64 n2] W fun e w' => e = .returned (.bool true) ∧ Below W.heap.size W w' := by
  let ρ : Env := ⟨fun i => match i with | 2 => .i n1 | 3 => .i n2 | _ => default, fbF, IC.p⟩
  let σ : Pl := fun _ => (0, 0)
  refine (both_ok true ⟨W, IC⟩ rfl W.heap.size ρ σ W [.slice none 0 0, .int .i64 n1, .int .i64 n2] (start_none (fun _ => rfl) hl h1 (by rfl) rfl rfl rfl fun f hf => ?_) fun ρ' σ' he => ?_).mono fun e w' h => told_true rfl h
  · simp only [bothsK, List.mem_cons, List.not_mem_nil, or_false] at hf
    subst hf; rfl
  · 
    have e2 : ρ'.v 2 = .i n1 := he.v 2 (Or.inl (by decide))
    have e3 : ρ'.v 3 = .i n2 := he.v 3 (Or.inl (by decide))
    simp [bothsK, i64, SV.val, X.den, e2, e3]
theorem fbBoth_row {W : World} (hl : ∀ i, i < 256 → W.cell? ⟨1, i, none⟩ = some (.int .u8 (asciiAt i))) (h1 : 1 < W.heap.size) (n1 n2 : Int) {b off len cap : Nat} {zs : Nat → Nat → Bool} (hb : b < W.heap.size)
    (hc : ∀ i j, i < len → j < 4 → W.cell? ⟨b, off + (i * 4 + j), none⟩ = some (.bool (zs i j))) :
    Calls Tryd.prog 6 #[.slice (some ⟨b, off, none⟩) len cap, .int .i64 n1, .int .i64 n2] W fun e w' => e = .returned (.bool true) ∧ Below W.heap.size W w' := by
  let ρ : Env := ⟨fun i => match i with | 2 => .i n1 | 3 => .i n2 | 0 => boolRows len 4 zs | 1 => .i cap | _ => default, fbF, IC.p⟩
  refine (both_ok false ⟨W, IC⟩ rfl W.heap.size ρ (fun _ => (b, off)) W [.slice (some ⟨b, off, none⟩) len cap, .int .i64 n1, .int .i64 n2] (start_one (x := .v 0) (ks := List.replicate 4 CK.bool) (fun _ => rfl) hl h1 (by rfl) rfl rfl rfl hb (boolRows_cell (by rfl) hc) fun f hf => ?_) fun ρ' σ' he => ?_).mono fun e w' h => told_true rfl h
  · simp only [bothsK, List.mem_cons, List.not_mem_nil, or_false] at hf
    subst hf; rfl
  · 
    have e2 : ρ'.v 2 = .i n1 := he.v 2 (Or.inl (by decide))
    have e3 : ρ'.v 3 = .i n2 := he.v 3 (Or.inl (by decide))
    have e0 : ρ'.v 0 = boolRows len 4 zs := he.v 0 (Or.inl (by decide))
    have e1 : ρ'.v 1 = .i cap := he.v 1 (Or.inl (by decide))
    have eb : σ' 0 = (b, off) := he.b 0 (Or.inl (by decide))
    have el : (boolRows len 4 zs).asL.length = len := by simp [boolRows]
    simp [bothsK, i64, SV.val, X.nat, X.den, den_len, adr, e2, e3, e0, e1, eb, el]
theorem fbBoth_door (os : Os) (args : Array Value) : laidMetH Tryd.prog Rows.fbBothRow.laid ((World.doorLaid Tryd.prog 400 os).forCall (fun _ _ => 0) ⟨#[], args, []⟩).memory :=
  laidMetH_of_parts3 (fuel := 8) (laidMet_of_run' 8 (by kernel_rfl) (by kernel_rfl)) (by kernel_rfl) (by kernel_rfl)
theorem fbBoth_lifted (os : Os) (started : os.Started) (H : Type) (enc : TypeId × Value → H) :
    ReturnsInHanded {} Tryd.checked os 6 .any (fun w args => (Rows.fbBothSpec.pre enc Tryd.prog Tryd.f6 [] false w args ∧ laidMetH Tryd.prog Rows.fbBothRow.laid w) ∧ sizedMet enc Tryd.prog Tryd.f6 (OpenSpec.ofChange Rows.fbBothSpec) false w args)
      (Rows.fbBothSpec.post enc Tryd.prog Tryd.f6 false true false false) := by
  refine returnsInHanded_of_change_and (C := Tryd.checked) (X := fun w _ => laidMetH Tryd.prog Rows.fbBothRow.laid w) (fun _ _ _ hh h => h.of_heap hh) own started (by kernel_rfl) Tryd.func6
    (ChangeSpec.witness_shaped (enc := enc) (C := Tryd.checked) (os := os) (X := fun w _ => laidMetH Tryd.prog Rows.fbBothRow.laid w) false (World.doorLaid Tryd.prog 400 os) #[.slice none 0 0, .int .i64 0, .int .i64 0] 8 rfl (World.shaped_of_RefB (by kernel_rfl) (by kernel_rfl)) (by kernel_rfl) (by kernel_rfl) (by kernel_rfl) (fbBoth_door os _)) ?_
  intro W base args ds gs before hval0 hW _ _ hL _
  have hval : ∀ (j : Nat) t v, Tryd.f6.params[j]? = some t → args[j]? = some v → Value.okWide Tryd.prog W .any base t v := hval0
  have hW' := hW
  obtain ⟨p, q, hA0, hV, rfl, hfz, hnd⟩ := hW
  have hA : DataW.TrodAll enc Tryd.prog W 0 (fun _ => true) true Tryd.f6.params.toList args.toList ds p := hA0
  rw [Tryd.params6] at hA hval
  obtain ⟨v0, v1, v2, d0, d1, d2, p0, p1, p2, rfl, rfl, rfl, h0, h1, h2⟩ := trodAll_three hA
  have hlaid := of_laid hL
  have hsz : 1 < W.heap.size := below_cell (hlaid 0 (by decide))
  obtain ⟨rfl, rfl⟩ := trodVars_none hV
  obtain ⟨n1, rfl, _, _, _⟩ := open_int Tryd.underlying2 (hval 1 2 v1 rfl rfl) h1
  obtain ⟨n2, rfl, _, _, _⟩ := open_int Tryd.underlying2 (hval 2 2 v2 rfl rfl) h2
  have fin : ∀ e w', e = Ending.returned (.bool true) ∧ Below W.heap.size W w' → ∃ v, e = .returned v ∧ Rows.fbBothSpec.post enc Tryd.prog Tryd.f6 false true false false W #[v0, .int .i64 n1, .int .i64 n2] v w' := by
    rintro e w' ⟨rfl, hb⟩
    exact ⟨_, rfl, law_post laidOut hW' rfl (by rw [Tryd.params6]; intro t ht; simp only [List.mem_cons, List.not_mem_nil, or_false] at ht; rcases ht with rfl | rfl | rfl <;> exact ⟨by kernel_rfl, of_decide_eq_true (by kernel_rfl)⟩) (by rfl) (tb := 4) rfl Tryd.underlying4 hb⟩
  rcases open_boolrows Tryd.underlying42 Tryd.underlying43 Tryd.underlying4 (by kernel_rfl) (by kernel_rfl) (hval 0 42 v0 rfl rfl) h0 with rfl | ⟨b, off, len, cap, zs, rfl, k1, k2, k3, k4⟩
  · exact (fbBoth_nil hlaid hsz n1 n2).mono fun e w' h => fin e w' h
  · exact (fbBoth_row hlaid hsz n1 n2 k1 k4).mono fun e w' h => fin e w' h
theorem fbBoth_holds : Rows.FbBothSaid :=
  OpenClaim.holds_of_wide 6 Tryd.f6 rfl rfl rfl rfl rfl rfl rfl ⟨rfl, rfl, rfl, rfl, rfl⟩ rfl rfl rfl rfl rfl (by kernel_rfl) Tryd.func6 (by kernel_rfl)
    (of_decide_eq_true (by kernel_rfl)) (by unfold Func.isWrapper; first | (rw [if_pos (by decide +kernel)]; kernel_rfl) | (rw [if_neg (by decide +kernel)]; exact ⟨rfl, rfl⟩))
    (fun os started H enc _ => fbBoth_lifted os started H enc)
theorem fbBoth_card : Rows.FbBothCardSaid :=
  Claim7.holds_tied_plain_at .later [] [.listed, .data] true (true, "09fda92184a8400bbd2e43ac71c688daac006d731d374876dc34d34786d9df8f") true
    fbBoth_holds (fun _ h => by cases h) (by kernel_rfl) (fun _ h => by cases h) fbBoth_row_tie rfl ⟨rfl, rfl⟩ (by kernel_rfl) rfl
    (fun f fn hf hfn => by
      obtain rfl : f = 6 := Option.some.inj ((show Tryd.prog.funcNamed "rung/runglaw17.FbBoth" = some 6 by kernel_rfl).symm.trans hf) |>.symm
      obtain rfl : fn = Tryd.f6 := (Option.some.inj (Tryd.func6.symm.trans hfn)).symm
      exact ⟨by kernel_rfl, fun j t ht => by
        rw [Tryd.params6] at ht
        have hm : t ∈ [42, 2, 2] := by simpa using Array.mem_of_getElem? ht
        have hall : ([42, 2, 2].all fun u => !Tryd.prog.wantsStandIn u) = true := by kernel_rfl
        exact (show Tryd.prog.wantsStandIn t = false by simpa using List.all_eq_true.1 hall t hm)⟩)
    (by kernel_rfl)
end Go.Proofs.YtkphkjffcpkhjaaDoor
end
#print axioms Go.Proofs.YtkphkjffcpkhjaaDoor.fbBoth_card
