/- The row and the card of ShowFields. -/
import Derived.Test.YtkdejfedigiohaaGreatDoorQR
import Derived.Test.YtkdejfedigiohaaGreatDoorQF
import Derived.Test.YtkdejfedigiohaaGreatDoorCards
import Derived.Test.YtkdejfedigiohaaGreatDoorTie
import Derived.SevenTiedAt
namespace Go.Proofs.YtkdejfedigiohaaGreatDoor
open Go.ChangeShapes Go.WideShapes Go.ChangeAt Go.RowKit
set_option linter.unusedVariables false

theorem met_showFields (os : Os) (args : Array Value) : laidMetH Tryz.prog Rows.showFieldsRow.laid ((laidWorld20 os).forCall (fun _ _ => 0) ⟨#[], args, []⟩).memory :=
  laidMetH_of_parts (laidMet_of_run' 64 (by kernel_rfl) (by kernel_rfl)) (by kernel_rfl)

set_option maxRecDepth 100000 in
theorem lifted_showFields (os : Os) (started : os.Started) (H : Type) (enc : TypeId × Value → H) :
    ReturnsInHanded {} Tryz.checked os 8 .any (fun w args => (Rows.showFieldsSpec.pre enc Tryz.checked.prog Tryz.f8 [] false w args ∧ laidMetH Tryz.prog Rows.showFieldsRow.laid w) ∧ sizedMet enc Tryz.checked.prog Tryz.f8 (OpenSpec.ofChange Rows.showFieldsSpec) false w args)
      (Rows.showFieldsSpec.post enc Tryz.checked.prog Tryz.f8 false true false false) := by
  refine lifted_of (X := fun w _ => laidMetH Tryz.prog Rows.showFieldsRow.laid w) (fun _ _ _ hh h => h.of_heap hh) started (by kernel_rfl) Tryz.func8
    (ChangeSpec.witness_shaped (enc := enc) (C := Tryz.checked) (os := os) (X := fun w _ => laidMetH Tryz.prog Rows.showFieldsRow.laid w) false (laidWorld20 os) #[.agg #[.int .u64 0, .bool false], .int .i64 0] 8 rfl
      (World.shaped_of_ZipB (by kernel_rfl) (by kernel_rfl)) (by kernel_rfl) (by kernel_rfl) (by kernel_rfl) (met_showFields os _)) ?_
  intro W base args ds gs before hval hW hL hsh _
  have hW' := hW
  obtain ⟨p, q, hA0, hV, rfl, hfz, hnd⟩ := hW
  have hA : DataW.TrodAll enc Tryz.prog W 0 (fun _ => true) true Tryz.f8.params.toList args.toList ds p := hA0
  rw [Tryz.params8] at hA hval
  obtain ⟨v0, v1, d0, d1, p0, p1, rfl, rfl, rfl, k0, k1⟩ := trodAll_two hA
  obtain ⟨rfl, rfl⟩ := trodVars_none hV
  have lt0 : ∀ x ∈ p0, x.block < W.heap.size := by obtain ⟨m, hm⟩ := k0; exact DataW.trod_lt m _ _ _ hm
  obtain ⟨b0, s0, ok0, rfl⟩ := open_fd (hval 0 24 v0 rfl rfl)
  have lt1 : ∀ x ∈ p1, x.block < W.heap.size := by obtain ⟨m, hm⟩ := k1; exact DataW.trod_lt m _ _ _ hm
  obtain ⟨a1, rfl⟩ := okWide_int Tryz.underlying3 (hval 1 3 v1 rfl rfl)
  refine (fields_walk b0 s0 a1 W ok0 (env_of_shaped hsh) (tab_of_laid hL (by simp [Rows.showFieldsRow])) (size_of_shaped hsh)).mono fun e W' ⟨he, bel⟩ => ?_
  subst he
  exact ⟨_, rfl, _, _, _, [], _, [], hW', trodAll_mk1 (shut_bool Tryz.underlying4 _), trodAll_mk2 (Below.trod rowLaidOut (by kernel_rfl) (of_decide_eq_true (by kernel_rfl)) k0 bel lt0) (Below.trod rowLaidOut (by kernel_rfl) (of_decide_eq_true (by kernel_rfl)) k1 bel lt1), rfl, bel.frame _, fun h => by cases h⟩

theorem over_showFields : Rows.showFieldsRow.holds Tryz.pinned (OpenSpec.ofChange Rows.showFieldsSpec) :=
  OpenClaim.holds_of_wide 8 Tryz.f8 rfl rfl rfl rfl rfl rfl rfl ⟨rfl, rfl, rfl, rfl, rfl⟩ rfl rfl rfl rfl rfl (by kernel_rfl) Tryz.func8 (by kernel_rfl)
    (of_decide_eq_true (by kernel_rfl)) (by unfold Func.isWrapper; first | (rw [if_pos (by decide +kernel)]; kernel_rfl) | (rw [if_neg (by decide +kernel)]; exact ⟨rfl, rfl⟩))
    (fun os started H enc _ => lifted_showFields os started H enc)

theorem showFields_card : Rows.ShowFieldsCardSaid :=
  Claim7.holds_tied_plain_at .later [] [.data, .data, .data, .data, .handle, .pinned] true (true, "8e40f5c2dd2f676b1829649449e39e89f36f1c5d38969bba931cd7088dcb3a1c") true
    over_showFields (fun _ h => by cases h) (by kernel_rfl) (fun _ h => by cases h) showFields_row_tie rfl ⟨rfl, rfl⟩ (by kernel_rfl) rfl
    (fun f fn hf hfn => by
      obtain rfl : f = 8 := Option.some.inj ((show Tryz.prog.funcNamed "compline/complinelaw20.ShowFields" = some 8 by kernel_rfl).symm.trans hf) |>.symm
      obtain rfl : fn = Tryz.f8 := (Option.some.inj (Tryz.func8.symm.trans hfn)).symm
      exact ⟨by kernel_rfl, fun j t ht => by
        rw [Tryz.params8] at ht
        have hm : t ∈ [24, 3] := by have := Array.mem_of_getElem? ht; simp at this ⊢; omega
        have hall : ([24, 3].all fun u => !Tryz.prog.wantsStandIn u) = true := by kernel_rfl
        exact (show Tryz.prog.wantsStandIn t = false by simpa using List.all_eq_true.1 hall t hm)⟩)
    (by kernel_rfl)
#print axioms showFields_card
end Go.Proofs.YtkdejfedigiohaaGreatDoor
