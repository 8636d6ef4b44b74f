/- The row and the card of ShowTwice. -/
import Derived.Test.YtkdejfedigiohaaGreatDoorQI
import Derived.Test.YtkdejfedigiohaaGreatDoorCards
import Derived.Test.YtkdejfedigiohaaGreatDoorTie
import Derived.SevenTiedAt
namespace Go.Proofs.YtkdejfedigiohaaGreatDoor
open Go.ChangeShapes Go.WideShapes Go.ChangeAt Go.RowKit
set_option linter.unusedVariables false

theorem met_showTwice (os : Os) (args : Array Value) : laidMetH Tryz.prog Rows.showTwiceRow.laid ((laidWorld20 os).forCall (fun _ _ => 0) ⟨#[], args, []⟩).memory :=
  laidMetH_of_parts (laidMet_of_run' 64 (by kernel_rfl) (by kernel_rfl)) (by kernel_rfl)

set_option maxRecDepth 100000 in
theorem lifted_showTwice (os : Os) (started : os.Started) (H : Type) (enc : TypeId × Value → H) :
    ReturnsInHanded {} Tryz.checked os 11 .any (fun w args => (Rows.showTwiceSpec.pre enc Tryz.checked.prog Tryz.f11 [] false w args ∧ laidMetH Tryz.prog Rows.showTwiceRow.laid w) ∧ sizedMet enc Tryz.checked.prog Tryz.f11 (OpenSpec.ofChange Rows.showTwiceSpec) false w args)
      (Rows.showTwiceSpec.post enc Tryz.checked.prog Tryz.f11 false true false false) := by
  refine lifted_of (X := fun w _ => laidMetH Tryz.prog Rows.showTwiceRow.laid w) (fun _ _ _ hh h => h.of_heap hh) started (by kernel_rfl) Tryz.func11
    (ChangeSpec.witness_shaped (enc := enc) (C := Tryz.checked) (os := os) (X := fun w _ => laidMetH Tryz.prog Rows.showTwiceRow.laid w) false (laidWorld20 os) #[.string ByteArray.empty] 8 rfl
      (World.shaped_of_ZipB (by kernel_rfl) (by kernel_rfl)) (by kernel_rfl) (by kernel_rfl) (by kernel_rfl) (met_showTwice os _)) ?_
  intro W base args ds gs before hval hW hL hsh _
  have hW' := hW
  obtain ⟨p, q, hA0, hV, rfl, hfz, hnd⟩ := hW
  have hA : DataW.TrodAll enc Tryz.prog W 0 (fun _ => true) true Tryz.f11.params.toList args.toList ds p := hA0
  rw [Tryz.params11] at hA hval
  obtain ⟨v0, d0, rfl, rfl, k0⟩ := trodAll_one hA
  obtain ⟨rfl, rfl⟩ := trodVars_none hV
  have lt0 : ∀ x ∈ p, x.block < W.heap.size := by obtain ⟨m, hm⟩ := k0; exact DataW.trod_lt m _ _ _ hm
  obtain ⟨s0, rfl⟩ := okWide_string Tryz.underlying9 (hval 0 9 v0 rfl rfl)
  refine (twice_any s0 W  (env_of_shaped hsh) (errV_of_laid hL (by simp [Rows.showTwiceRow])) (tab_of_laid hL (by simp [Rows.showTwiceRow])) (size_of_shaped hsh)).mono fun e W' ⟨he, bel⟩ => ?_
  subst he
  exact ⟨_, rfl, _, _, _, [], _, [], hW', trodAll_mk1 (shut_bool Tryz.underlying4 _), trodAll_mk1 (Below.trod rowLaidOut (by kernel_rfl) (of_decide_eq_true (by kernel_rfl)) k0 bel lt0), rfl, bel.frame _, fun h => by cases h⟩

theorem over_showTwice : Rows.showTwiceRow.holds Tryz.pinned (OpenSpec.ofChange Rows.showTwiceSpec) :=
  OpenClaim.holds_of_wide 11 Tryz.f11 rfl rfl rfl rfl rfl rfl rfl ⟨rfl, rfl, rfl, rfl, rfl⟩ rfl rfl rfl rfl rfl (by kernel_rfl) Tryz.func11 (by kernel_rfl)
    (of_decide_eq_true (by kernel_rfl)) (by unfold Func.isWrapper; first | (rw [if_pos (by decide +kernel)]; kernel_rfl) | (rw [if_neg (by decide +kernel)]; exact ⟨rfl, rfl⟩))
    (fun os started H enc _ => lifted_showTwice os started H enc)

theorem showTwice_card : Rows.ShowTwiceCardSaid :=
  Claim7.holds_tied_plain_at .later [] [.data, .data, .data, .data, .handle, .pinned] true (true, "8e40f5c2dd2f676b1829649449e39e89f36f1c5d38969bba931cd7088dcb3a1c") true
    over_showTwice (fun _ h => by cases h) (by kernel_rfl) (fun _ h => by cases h) showTwice_row_tie rfl ⟨rfl, rfl⟩ (by kernel_rfl) rfl
    (fun f fn hf hfn => by
      obtain rfl : f = 11 := Option.some.inj ((show Tryz.prog.funcNamed "compline/complinelaw20.ShowTwice" = some 11 by kernel_rfl).symm.trans hf) |>.symm
      obtain rfl : fn = Tryz.f11 := (Option.some.inj (Tryz.func11.symm.trans hfn)).symm
      exact ⟨by kernel_rfl, fun j t ht => by
        rw [Tryz.params11] at ht
        have hm : t ∈ [9] := by have := Array.mem_of_getElem? ht; simp at this ⊢; omega
        have hall : ([9].all fun u => !Tryz.prog.wantsStandIn u) = true := by kernel_rfl
        exact (show Tryz.prog.wantsStandIn t = false by simpa using List.all_eq_true.1 hall t hm)⟩)
    (by kernel_rfl)
#print axioms showTwice_card
end Go.Proofs.YtkdejfedigiohaaGreatDoor
