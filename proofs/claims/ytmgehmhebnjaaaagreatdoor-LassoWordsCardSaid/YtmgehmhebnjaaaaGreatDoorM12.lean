/- Lemmas that lead to the statement: the frame of LassoWords. -/
import Derived.Test.YtmgehmhebnjaaaaGreatDoorRows
import Derived.Test.YtmgehmhebnjaaaaGreatDoorM11
import Derived.Test.YtmgehmhebnjaaaaGreatDoorM4
import Derived.ProofKit
import Derived.LaidMore
import Derived.OpenShut
import Derived.Stop.Joined
import Derived.SizedLaws
import Derived.Carry
set_option linter.all false
set_option maxRecDepth 1000000
set_option linter.unusedVariables false
namespace Go.Proofs.YtmgehmhebnjaaaaGreatDoor
open Go.ChangeShapes Go.WideShapes Go.ChangeAt Go.RowKit
theorem own : ownKnob Tryz.prog.godebug = none := by kernel_rfl
theorem laidOut : laidOutB Tryz.prog = true := by kernel_rfl
theorem mixed : Tryz.prog.follows .mixedOrders = true := by kernel_rfl
theorem door_met (os : Os) (args : Array Value) : laidMetH Tryz.prog Rows.lassoWordsRow.laid ((World.doorLaid Tryz.prog 400 os).forCall (fun _ _ => 0) ⟨#[], args, []⟩).memory :=
  laidMetH_of_parts3 (fuel := 8) (laidMet_of_run' 8 (by kernel_rfl) (by kernel_rfl)) (by kernel_rfl) (by kernel_rfl)
theorem lifted (hC : ∀ a b : List Int, (∀ x ∈ a, Dm.inR x) → (∀ x ∈ b, Dm.inR x) → Dm.Closed Dm.YtmgehmhebnjaaaaGreatDoor.tab (fun _ => none) 5 [.agg [.sl a.length (Dm.pints a), .sl b.length (Dm.pints b)]] (.v (.bool true))) (os : Os) (started : os.Started) (H : Type) (enc : TypeId × Value → H) :
    ReturnsInHanded {} Tryz.checked os 5 .any (fun w args => (Rows.lassoWordsSpec.pre enc Tryz.prog Tryz.f5 [] false w args ∧ laidMetH Tryz.prog Rows.lassoWordsRow.laid w) ∧ sizedMet enc Tryz.prog Tryz.f5 (OpenSpec.ofChange Rows.lassoWordsSpec) false w args)
      (Rows.lassoWordsSpec.post enc Tryz.prog Tryz.f5 false true false false) := by
  refine returnsInHanded_of_change_and (C := Tryz.checked) (X := fun w _ => laidMetH Tryz.prog Rows.lassoWordsRow.laid w) (fun _ _ _ hh h => h.of_heap hh) own started (by kernel_rfl) Tryz.func5
    (ChangeSpec.witness_shaped (enc := enc) (C := Tryz.checked) (os := os) (X := fun w _ => laidMetH Tryz.prog Rows.lassoWordsRow.laid w) false (World.doorLaid Tryz.prog 400 os) #[.agg #[.slice none 0 0, .slice none 0 0]] 8 rfl (World.shaped_of_RefB (by kernel_rfl) (by kernel_rfl)) (by kernel_rfl) (by kernel_rfl) (by kernel_rfl) (door_met os _)) ?_
  intro W base args ds gs before hval0 hW _ _ hL _
  have hval : ∀ (j : Nat) t v, Tryz.f5.params[j]? = some t → args[j]? = some v → Value.okWide Tryz.prog W .any base t v := hval0
  have hW' := hW
  obtain ⟨p, q, hA0, hV, rfl, hfz, hnd⟩ := hW
  have hA : DataW.TrodAll enc Tryz.prog W 0 (fun _ => true) true Tryz.f5.params.toList args.toList ds p := hA0
  have hp5 : Tryz.f5.params = #[26] := by kernel_rfl
  rw [hp5] at hA hval
  obtain ⟨v0, vs0, d0, ds0, p0, q0, hargs, rfl, rfl, h0, r0⟩ := trodAll_cons hA
  obtain ⟨rfl, rfl, rfl⟩ := trodAll_nil r0
  obtain rfl : args = #[v0] := by cases args; simp_all
  obtain ⟨rfl, rfl⟩ := trodVars_none hV
  have h0' := h0
  obtain ⟨fuel0, hf0⟩ := h0
  have u26 : Tryz.prog.underlying 26 = some (.struct (Tryz.prog.fieldsOf 26)) := by kernel_rfl
  obtain ⟨c0, rfl, _⟩ : ∃ cs, v0 = .agg cs ∧ True := by
    have := hval 0 26 v0 rfl rfl
    simp only [Value.okWide, u26] at this
    obtain ⟨cs, h, _⟩ := this
    exact ⟨cs, h, trivial⟩
  obtain ⟨ps0, sh0, op0, _⟩ := Dm.open_trod fuel0 8 26 _ _ (by kernel_rfl) hf0
  have e24 : Tryz.prog.underlying 24 = some (.slice 3) := by kernel_rfl
  have e3 : Tryz.prog.underlying 3 = some (.int .i64) := by kernel_rfl
  obtain ⟨a, b, rfl, ⟨ha1, ha2⟩, ⟨hb1, hb2⟩⟩ := sh0.ints2 u26 (by kernel_rfl) e24 e3
  have op := (show Dm.OpenedL Tryz.prog W c0.toList [.sl a.length (Dm.pints a), .sl b.length (Dm.pints b)] from op0).agg
  have bw := Dm.law_calls mixed Dm.YtmgehmhebnjaaaaGreatDoor.tab_ok (fun f g h => by cases h) op (hC a b ha2 hb2)
  have k0 := h0'
  have lt0 : ∀ x ∈ p0, x.block < W.heap.size := by obtain ⟨m, hm⟩ := k0; exact DataW.trod_lt m _ _ _ hm
  clear hA0 hval0
  simp only [List.append_nil] at hW'
  refine bw.mono fun e W' ⟨he, bel⟩ => ?_
  subst he
  exact ⟨_, rfl, _, _, _, [], _, [], hW', trodAll_mk1 (shut_bool (by kernel_rfl : Tryz.prog.underlying 4 = some .bool) _), (trodAll_cons_mk (Below.trod laidOut (by kernel_rfl) (of_decide_eq_true (by kernel_rfl)) k0 bel lt0) trodAll_mk0), rfl, bel.frame _, fun h => by cases h⟩
theorem lassoWords_over (hC : ∀ a b : List Int, (∀ x ∈ a, Dm.inR x) → (∀ x ∈ b, Dm.inR x) → Dm.Closed Dm.YtmgehmhebnjaaaaGreatDoor.tab (fun _ => none) 5 [.agg [.sl a.length (Dm.pints a), .sl b.length (Dm.pints b)]] (.v (.bool true))) : Rows.LassoWordsSaid :=
  OpenClaim.holds_of_wide 5 Tryz.f5 rfl rfl rfl rfl rfl rfl rfl ⟨rfl, rfl, rfl, rfl, rfl⟩ rfl rfl rfl rfl rfl (by kernel_rfl) Tryz.func5 (by kernel_rfl)
    (of_decide_eq_true (by kernel_rfl)) (by unfold Func.isWrapper; first | (rw [if_pos (by decide +kernel)]; kernel_rfl) | (rw [if_neg (by decide +kernel)]; exact ⟨rfl, rfl⟩))
    (fun os started H enc _ => lifted hC os started H enc)
end Go.Proofs.YtmgehmhebnjaaaaGreatDoor
