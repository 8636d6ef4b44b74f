-- PRINTED by print.py (a twelfth state) out of the translation. Not trusted: Lean checks it.
import Derived.Test.YtkdejfedigiohaaGreatDoorPRx0
import Derived.Test.YtkdejfedigiohaaGreatDoorPRx3
import Derived.Test.YtkdejfedigiohaaGreatDoorPRx4
namespace Go.Proofs.YtkdejfedigiohaaGreatDoor.PR
open Go.RowKit Go.Proofs.YtkdejfedigiohaaGreatDoorW.PrintWords Go.Proofs.YtkdejfedigiohaaGreatDoorW.PrintLast Go.Proofs.YtkdejfedigiohaaGreatDoorW.PrintMore
attribute [local go_sem] max2_int min2_int max_two min_two max_three min_three max_four min_four   -- for this text's walks alone
set_option linter.unusedVariables false
set_option linter.unusedSimpArgs false

/-! ### complineref21_Match: function 16 -/
def complineref21_Match.f (k : Nat) (a0_0 : Int) (a0_1 : Bool) (a0_2 : Int) (a0_3 : Bool) (a0_4 : Int) (a0_5 : Bool) (a0_6 : Int) (a0_7 : Bool) (a0_8 : Int) (a0_9 : Bool) (a1 : Int) : Option (Bool × Int) := (complineref19_Check.f k a0_0 a0_1 a0_2 a0_3 a0_4 a0_5 a0_6 a0_7 a0_8 a0_9).bind fun bt160 => (if bt160.2 = 0 then ((complineref16_Of.f k a1).bind fun bt162 => (if bt162.2.2.2.2.2.2 = 0 then ((complineref21_On.f k a0_0 a0_1 a0_2 a0_3 a0_4 a0_5 a0_6 a0_7 a0_8 a0_9 bt162.2.1 bt162.2.2.1 bt162.2.2.2.2.2.1).bind fun t170 => ((complineref18_Has.f k a0_2 a0_3 bt162.2.2.2.1).bind fun t171 => ((complineref18_Has.f k a0_0 a0_1 bt162.2.2.2.2.1).bind fun t172 => (if t170 = true then (if t171 = true then (some (t172, 0)) else (some (false, 0))) else (some (false, 0)))))) else (some (false, 1)))) else (some (false, 2)))
theorem complineref21_Match.mono : ∀ a0 a1 a2 a3 a4 a5 a6 a7 a8 a9 a10 k, LeO (complineref21_Match.f k a0 a1 a2 a3 a4 a5 a6 a7 a8 a9 a10) (complineref21_Match.f (k + 1) a0 a1 a2 a3 a4 a5 a6 a7 a8 a9 a10) := by
  intro a0 a1 a2 a3 a4 a5 a6 a7 a8 a9 a10 k
  unfold complineref21_Match.f
  repeat' first
      | (with_reducible exact complineref16_Of.mono _ _)
      | (with_reducible exact complineref18_Has.mono _ _ _ _)
      | (with_reducible exact complineref19_Check.mono _ _ _ _ _ _ _ _ _ _ _)
      | (with_reducible exact complineref21_On.mono _ _ _ _ _ _ _ _ _ _ _ _ _ _)
      | (with_reducible exact LeO.refl _)
      | (with_reducible exact LeO.none _)
      | (with_reducible refine LeO.ite ?_ ?_)
      | (with_reducible refine LeO.bind ?_ (fun _ => ?_))
      | exact complineref16_Of.mono _ _
      | exact complineref18_Has.mono _ _ _ _
      | exact complineref19_Check.mono _ _ _ _ _ _ _ _ _ _ _
      | exact complineref21_On.mono _ _ _ _ _ _ _ _ _ _ _ _ _ _
      | exact LeO.none _
      | refine LeO.ite ?_ ?_
      | refine LeO.bind ?_ (fun _ => ?_)
def complineref21_Match.T8 : Bool × List (List Nat × List Nat) := (true, [([], []), ([0], [0]), ([], []), ([2], [2]), ([1, 3], [1, 3]), ([], []), ([5], [5]), ([], []), ([7], [7]), ([6, 8, 4], [6, 8]), ([4, 9, 0, 1, 2, 3, 4], [4]), ([9, 10, 0, 1, 2, 3, 4, 5, 6, 7, 8, 9, 10], [9])])
def complineref21_Match.B8 : List Nat := [0, 1, 0, 4, 15, 0, 32, 0, 128, 511, 1023, 2047]
theorem complineref21_Match.tab8 : rtab .any (opsOf Tryz.f16 8) = complineref21_Match.T8 := by kernel_rfl
theorem complineref21_Match.bits8 : waitsOk complineref21_Match.T8.2 complineref21_Match.B8 = true := by kernel_rfl
set_option maxHeartbeats 8000000 in
set_option maxRecDepth 100000 in
theorem complineref21_Match.calls (k : Nat) (a0_0 : Int) (a0_1 : Bool) (a0_2 : Int) (a0_3 : Bool) (a0_4 : Int) (a0_5 : Bool) (a0_6 : Int) (a0_7 : Bool) (a0_8 : Int) (a0_9 : Bool) (a1 : Int) (r1 : Bool) (r2 : Int) (w : World) (h : complineref21_Match.f k a0_0 a0_1 a0_2 a0_3 a0_4 a0_5 a0_6 a0_7 a0_8 a0_9 a1 = some (r1, r2)) :
    Calls Tryz.prog 16 #[.agg #[.int .u64 a0_0, .bool a0_1, .int .u64 a0_2, .bool a0_3, .int .u64 a0_4, .bool a0_5, .int .u64 a0_6, .bool a0_7, .int .u64 a0_8, .bool a0_9], .int .i64 a1] w fun e w' => e = .returned (.tuple #[.bool r1, .int .i64 r2]) ∧ Below w.heap.size w w' := by
  have hu26 := Tryz.underlying26
  have hu36 := Tryz.underlying36
  have hu24 := Tryz.underlying24
  have HB := Aside0.mk (Below.refl w.heap.size w)
  have H : ((complineref19_Check.f k a0_0 a0_1 a0_2 a0_3 a0_4 a0_5 a0_6 a0_7 a0_8 a0_9).bind fun bt160 => (if bt160.2 = 0 then ((complineref16_Of.f k a1).bind fun bt162 => (if bt162.2.2.2.2.2.2 = 0 then ((complineref21_On.f k a0_0 a0_1 a0_2 a0_3 a0_4 a0_5 a0_6 a0_7 a0_8 a0_9 bt162.2.1 bt162.2.2.1 bt162.2.2.2.2.2.1).bind fun t170 => ((complineref18_Has.f k a0_2 a0_3 bt162.2.2.2.1).bind fun t171 => ((complineref18_Has.f k a0_0 a0_1 bt162.2.2.2.2.1).bind fun t172 => (if t170 = true then (if t171 = true then (some (t172, 0)) else (some (false, 0))) else (some (false, 0)))))) else (some (false, 1)))) else (some (false, 2)))) = some (r1, r2) := h
  clear h
  replace H := Option.bind_eq_some_iff.mp H
  obtain ⟨⟨t160, t161⟩, A30, H⟩ := H
  replace H : (if t161 = 0 then ((complineref16_Of.f k a1).bind fun bt162 => (if bt162.2.2.2.2.2.2 = 0 then ((complineref21_On.f k a0_0 a0_1 a0_2 a0_3 a0_4 a0_5 a0_6 a0_7 a0_8 a0_9 bt162.2.1 bt162.2.2.1 bt162.2.2.2.2.2.1).bind fun t170 => ((complineref18_Has.f k a0_2 a0_3 bt162.2.2.2.1).bind fun t171 => ((complineref18_Has.f k a0_0 a0_1 bt162.2.2.2.2.1).bind fun t172 => (if t170 = true then (if t171 = true then (some (t172, 0)) else (some (false, 0))) else (some (false, 0)))))) else (some (false, 1)))) else (some (false, 2))) = some (r1, r2) := H
  have A3 := Aside0.mk A30
  clear A30
  by_cases c4 : t161 = 0
  · rw [if_pos c4] at H
    have c4b0 : (t161 == 0) = true := beq_iff_eq.mpr c4
    have c4b1 : (t161 != 0) = false := bne_eq_false_iff_eq.mpr c4
    clear c4
    replace H := Option.bind_eq_some_iff.mp H
    obtain ⟨⟨t162, t163, t164, t165, t166, t167, t168⟩, A50, H⟩ := H
    replace H : (if t168 = 0 then ((complineref21_On.f k a0_0 a0_1 a0_2 a0_3 a0_4 a0_5 a0_6 a0_7 a0_8 a0_9 t163 t164 t167).bind fun t170 => ((complineref18_Has.f k a0_2 a0_3 t165).bind fun t171 => ((complineref18_Has.f k a0_0 a0_1 t166).bind fun t172 => (if t170 = true then (if t171 = true then (some (t172, 0)) else (some (false, 0))) else (some (false, 0)))))) else (some (false, 1))) = some (r1, r2) := H
    have A5 := Aside0.mk A50
    clear A50
    by_cases c6 : t168 = 0
    · rw [if_pos c6] at H
      have c6b0 : (t168 == 0) = true := beq_iff_eq.mpr c6
      have c6b1 : (t168 != 0) = false := bne_eq_false_iff_eq.mpr c6
      clear c6
      replace H := Option.bind_eq_some_iff.mp H
      obtain ⟨t170, A70, H⟩ := H
      replace H : ((complineref18_Has.f k a0_2 a0_3 t165).bind fun t171 => ((complineref18_Has.f k a0_0 a0_1 t166).bind fun t172 => (if t170 = true then (if t171 = true then (some (t172, 0)) else (some (false, 0))) else (some (false, 0))))) = some (r1, r2) := H
      have A7 := Aside0.mk A70
      clear A70
      replace H := Option.bind_eq_some_iff.mp H
      obtain ⟨t171, A80, H⟩ := H
      replace H : ((complineref18_Has.f k a0_0 a0_1 t166).bind fun t172 => (if t170 = true then (if t171 = true then (some (t172, 0)) else (some (false, 0))) else (some (false, 0)))) = some (r1, r2) := H
      have A8 := Aside0.mk A80
      clear A80
      replace H := Option.bind_eq_some_iff.mp H
      obtain ⟨t172, A90, H⟩ := H
      replace H : (if t170 = true then (if t171 = true then (some (t172, 0)) else (some (false, 0))) else (some (false, 0))) = some (r1, r2) := H
      have A9 := Aside0.mk A90
      clear A90
      by_cases c10 : t170 = true
      · subst c10
        have H1 : (if t171 = true then (some (t172, 0)) else (some (false, 0))) = some (r1, r2) := by rw [if_pos rfl] at H; exact H
        clear H
        have H := H1
        clear H1
        by_cases c11 : t171 = true
        · subst c11
          have H1 : (some (t172, 0)) = some (r1, r2) := by rw [if_pos rfl] at H; exact H
          clear H
          have H := H1
          clear H1
          simp only [Option.some.injEq, Prod.mk.injEq] at H
          obtain ⟨rfl, rfl⟩ := H
          go_enter Tryz.func16, Tryz.ntmps16
          try go_wp2_with (first | ((with_reducible refine gate_dst (N := 2) rfl ?_); refine box_event ?hg (N := 2) ?hd (cs := #[.int .u64 a0_0, .bool a0_1, .int .u64 a0_2, .bool a0_3, .int .u64 a0_4, .bool a0_5, .int .u64 a0_6, .bool a0_7, .int .u64 a0_8, .bool a0_9]) (t := 26) ?hr ?_; (case hd => rfl); (case hg => rfl); (case hr => first | (go_simp; done) | (go_simp; rfl)); intro gb159 hg w12 hbox hb; have n0_ := Aside0.mk (below_step (by repeat (first | (with_reducible first | exact HB.out | apply below_alloc | apply pw_below_drewN | apply below_drew1) | exact HB.out)) hb); have n1_ := Aside0.mk (hbox); have n2_ := Aside0.mk ((by rw [hg]; exact (below_size (by repeat (first | (with_reducible first | exact HB.out | apply below_alloc | apply pw_below_drewN | apply below_drew1) | exact HB.out))) : w.heap.size ≤ gb159)); have n3_ := Aside0.mk ((by rw [hg]; exact (below_size (by repeat (first | (with_reducible first | exact HB.out | apply below_alloc | apply pw_below_drewN | apply below_drew1) | exact HB.out))) : w.heap.size ≤ gb159)); clear HB; have HB := n0_; have BK159 := n1_; have GW159 := n2_; have GE159 := n3_; clear n0_ n1_ n2_ n3_; clear hb hbox hg; have hcz13_0 : w12.cell? ⟨gb159, 0, none⟩ = some (.int .u64 a0_0) := (blk_cell BK159.out 0).trans rfl; have hcz13_1 : w12.cell? ⟨gb159, 1, none⟩ = some (.bool a0_1) := (blk_cell BK159.out 1).trans rfl; have hcz13_2 : w12.cell? ⟨gb159, 2, none⟩ = some (.int .u64 a0_2) := (blk_cell BK159.out 2).trans rfl; have hcz13_3 : w12.cell? ⟨gb159, 3, none⟩ = some (.bool a0_3) := (blk_cell BK159.out 3).trans rfl; have hcz13_4 : w12.cell? ⟨gb159, 4, none⟩ = some (.int .u64 a0_4) := (blk_cell BK159.out 4).trans rfl; have hcz13_5 : w12.cell? ⟨gb159, 5, none⟩ = some (.bool a0_5) := (blk_cell BK159.out 5).trans rfl; have hcz13_6 : w12.cell? ⟨gb159, 6, none⟩ = some (.int .u64 a0_6) := (blk_cell BK159.out 6).trans rfl; have hcz13_7 : w12.cell? ⟨gb159, 7, none⟩ = some (.bool a0_7) := (blk_cell BK159.out 7).trans rfl; have hcz13_8 : w12.cell? ⟨gb159, 8, none⟩ = some (.int .u64 a0_8) := (blk_cell BK159.out 8).trans rfl; have hcz13_9 : w12.cell? ⟨gb159, 9, none⟩ = some (.bool a0_9) := (blk_cell BK159.out 9).trans rfl; have hfz13_0 := blk_frozen BK159.out 0; have hfz13_1 := blk_frozen BK159.out 1; have hfz13_2 := blk_frozen BK159.out 2; have hfz13_3 := blk_frozen BK159.out 3; have hfz13_4 := blk_frozen BK159.out 4; have hfz13_5 := blk_frozen BK159.out 5; have hfz13_6 := blk_frozen BK159.out 6; have hfz13_7 := blk_frozen BK159.out 7; have hfz13_8 := blk_frozen BK159.out 8; have hfz13_9 := blk_frozen BK159.out 9) | ((with_reducible refine gate_callee (f := 41) rfl ?_); refine goesL_ (some 15) rfl rfl Tryz.func41 (by kernel_rfl) rfl #[.agg #[.int .u64 a0_0, .bool a0_1, .int .u64 a0_2, .bool a0_3, .int .u64 a0_4, .bool a0_5, .int .u64 a0_6, .bool a0_7, .int .u64 a0_8, .bool a0_9]] rfl (by (try simp only [List.map_toArray, List.map_cons, List.map_nil]); first | done | rfl | (simp only [List.length_drop, List.length_take]; rfl)) ?_; (with_reducible refine (complineref19_Check.calls k a0_0 a0_1 a0_2 a0_3 a0_4 a0_5 a0_6 a0_7 a0_8 a0_9 t160 t161 _ A3.out).mono ?_); rintro e w14 ⟨rfl, hb⟩; refine ⟨_, rfl, ?_⟩; have n0_ := Aside0.mk (blk_below (g := gb159) (o := .cells #[.int .u64 a0_0, .bool a0_1, .int .u64 a0_2, .bool a0_3, .int .u64 a0_4, .bool a0_5, .int .u64 a0_6, .bool a0_7, .int .u64 a0_8, .bool a0_9] 26 (0, 0)) (by (with_reducible repeat (first | refine blk_drewN ?_ _ | refine blk_drew ?_ | refine blk_alloc ?_ _)); exact BK159.out) hb); have n1_ := Aside0.mk (below_step (by repeat (first | (with_reducible first | exact HB.out | apply below_alloc | apply pw_below_drewN | apply below_drew1 | refine below_set ?_ GE159.out) | exact HB.out)) hb); clear BK159; clear HB; have BK159 := n0_; have HB := n1_; clear n0_ n1_; (try clear hb); (try clear hb2); (try clear hk); (try clear hi)) | ((with_reducible refine gate_callee (f := 42) rfl ?_); refine goesL_ (some 22) rfl rfl Tryz.func42 (by kernel_rfl) rfl #[.int .i64 a1] rfl (by (try simp only [List.map_toArray, List.map_cons, List.map_nil]); first | done | rfl | (simp only [List.length_drop, List.length_take]; rfl)) ?_; (with_reducible refine (complineref16_Of.calls k a1 t162 t163 t164 t165 t166 t167 t168 _ A5.out).mono ?_); rintro e w15 ⟨rfl, hb⟩; refine ⟨_, rfl, ?_⟩; have n0_ := Aside0.mk (blk_below (g := gb159) (o := .cells #[.int .u64 a0_0, .bool a0_1, .int .u64 a0_2, .bool a0_3, .int .u64 a0_4, .bool a0_5, .int .u64 a0_6, .bool a0_7, .int .u64 a0_8, .bool a0_9] 26 (0, 0)) (by (with_reducible repeat (first | refine blk_drewN ?_ _ | refine blk_drew ?_ | refine blk_alloc ?_ _)); exact BK159.out) hb); have n1_ := Aside0.mk (below_step (by repeat (first | (with_reducible first | exact HB.out | apply below_alloc | apply pw_below_drewN | apply below_drew1 | refine below_set ?_ GE159.out) | exact HB.out)) hb); clear BK159; clear HB; have BK159 := n0_; have HB := n1_; clear n0_ n1_; (try clear hb); (try clear hb2); (try clear hk); (try clear hi)) | ((with_reducible refine gate_dst (N := 8) rfl ?_); refine box_event ?hg (N := 8) ?hd (cs := #[.int .i64 0, .int .i64 0, .int .i64 0, .int .i64 0, .int .i64 0, .int .i64 0]) (t := 36) ?hr ?_; (case hd => rfl); (case hg => rfl); (case hr => first | (go_simp; done) | (go_simp; rfl)); intro gb169 hg w16 hbox hb; have n0_ := Aside0.mk (blk_below (g := gb159) (o := .cells #[.int .u64 a0_0, .bool a0_1, .int .u64 a0_2, .bool a0_3, .int .u64 a0_4, .bool a0_5, .int .u64 a0_6, .bool a0_7, .int .u64 a0_8, .bool a0_9] 26 (0, 0)) (by (with_reducible repeat (first | refine blk_drewN ?_ _ | refine blk_drew ?_ | refine blk_alloc ?_ _)); exact BK159.out) hb); have n1_ := Aside0.mk (below_step (by repeat (first | (with_reducible first | exact HB.out | apply below_alloc | apply pw_below_drewN | apply below_drew1 | refine below_set ?_ GE159.out) | exact HB.out)) hb); have n2_ := Aside0.mk (hbox); have n3_ := Aside0.mk ((by rw [hg]; exact (below_size (by repeat (first | (with_reducible first | exact HB.out | apply below_alloc | apply pw_below_drewN | apply below_drew1 | refine below_set ?_ GE159.out) | exact HB.out))) : w.heap.size ≤ gb169)); have n4_ := Aside0.mk ((by rw [hg]; exact (below_size (by repeat (first | (with_reducible first | exact HB.out | apply below_alloc | apply pw_below_drewN | apply below_drew1 | refine below_set ?_ GE159.out) | exact HB.out))) : w.heap.size ≤ gb169)); have n5_ := Aside0.mk ((by rw [hg]; exact Nat.ne_of_lt (blk_lt (g := gb159) (o := .cells #[.int .u64 a0_0, .bool a0_1, .int .u64 a0_2, .bool a0_3, .int .u64 a0_4, .bool a0_5, .int .u64 a0_6, .bool a0_7, .int .u64 a0_8, .bool a0_9] 26 (0, 0)) (by (with_reducible repeat (first | refine blk_drewN ?_ _ | refine blk_drew ?_ | refine blk_alloc ?_ _)); exact BK159.out)) : gb159 ≠ gb169)); have n6_ := Aside0.mk ((by rw [hg]; exact Nat.ne_of_gt (blk_lt (g := gb159) (o := .cells #[.int .u64 a0_0, .bool a0_1, .int .u64 a0_2, .bool a0_3, .int .u64 a0_4, .bool a0_5, .int .u64 a0_6, .bool a0_7, .int .u64 a0_8, .bool a0_9] 26 (0, 0)) (by (with_reducible repeat (first | refine blk_drewN ?_ _ | refine blk_drew ?_ | refine blk_alloc ?_ _)); exact BK159.out)) : gb169 ≠ gb159)); clear BK159; clear HB; have BK159 := n0_; have HB := n1_; have BK169 := n2_; have GW169 := n3_; have GE169 := n4_; have NB159_169 := n5_; have NB169_159 := n6_; clear n0_ n1_ n2_ n3_ n4_ n5_ n6_; clear hb hbox hg; have hnb17 := NB169_159.out; have hnc17 := NB159_169.out; have hcz18_0 : w16.cell? ⟨gb169, 0, none⟩ = some (.int .i64 0) := (blk_cell BK169.out 0).trans rfl; have hcz18_1 : w16.cell? ⟨gb169, 1, none⟩ = some (.int .i64 0) := (blk_cell BK169.out 1).trans rfl; have hcz18_2 : w16.cell? ⟨gb169, 2, none⟩ = some (.int .i64 0) := (blk_cell BK169.out 2).trans rfl; have hcz18_3 : w16.cell? ⟨gb169, 3, none⟩ = some (.int .i64 0) := (blk_cell BK169.out 3).trans rfl; have hcz18_4 : w16.cell? ⟨gb169, 4, none⟩ = some (.int .i64 0) := (blk_cell BK169.out 4).trans rfl; have hcz18_5 : w16.cell? ⟨gb169, 5, none⟩ = some (.int .i64 0) := (blk_cell BK169.out 5).trans rfl; have hfz18_0 := blk_frozen BK169.out 0; have hfz18_1 := blk_frozen BK169.out 1; have hfz18_2 := blk_frozen BK169.out 2; have hfz18_3 := blk_frozen BK169.out 3; have hfz18_4 := blk_frozen BK169.out 4; have hfz18_5 := blk_frozen BK169.out 5; have hcz19_0 : w16.cell? ⟨gb159, 0, none⟩ = some (.int .u64 a0_0) := (blk_cell BK159.out 0).trans rfl; have hcz19_1 : w16.cell? ⟨gb159, 1, none⟩ = some (.bool a0_1) := (blk_cell BK159.out 1).trans rfl; have hcz19_2 : w16.cell? ⟨gb159, 2, none⟩ = some (.int .u64 a0_2) := (blk_cell BK159.out 2).trans rfl; have hcz19_3 : w16.cell? ⟨gb159, 3, none⟩ = some (.bool a0_3) := (blk_cell BK159.out 3).trans rfl; have hcz19_4 : w16.cell? ⟨gb159, 4, none⟩ = some (.int .u64 a0_4) := (blk_cell BK159.out 4).trans rfl; have hcz19_5 : w16.cell? ⟨gb159, 5, none⟩ = some (.bool a0_5) := (blk_cell BK159.out 5).trans rfl; have hcz19_6 : w16.cell? ⟨gb159, 6, none⟩ = some (.int .u64 a0_6) := (blk_cell BK159.out 6).trans rfl; have hcz19_7 : w16.cell? ⟨gb159, 7, none⟩ = some (.bool a0_7) := (blk_cell BK159.out 7).trans rfl; have hcz19_8 : w16.cell? ⟨gb159, 8, none⟩ = some (.int .u64 a0_8) := (blk_cell BK159.out 8).trans rfl; have hcz19_9 : w16.cell? ⟨gb159, 9, none⟩ = some (.bool a0_9) := (blk_cell BK159.out 9).trans rfl; have hfz19_0 := blk_frozen BK159.out 0; have hfz19_1 := blk_frozen BK159.out 1; have hfz19_2 := blk_frozen BK159.out 2; have hfz19_3 := blk_frozen BK159.out 3; have hfz19_4 := blk_frozen BK159.out 4; have hfz19_5 := blk_frozen BK159.out 5; have hfz19_6 := blk_frozen BK159.out 6; have hfz19_7 := blk_frozen BK159.out 7; have hfz19_8 := blk_frozen BK159.out 8; have hfz19_9 := blk_frozen BK159.out 9) | ((with_reducible refine gate_callee (f := 43) rfl ?_); refine goesL_ (some 34) rfl rfl Tryz.func43 (by kernel_rfl) rfl #[.agg #[.int .u64 a0_0, .bool a0_1, .int .u64 a0_2, .bool a0_3, .int .u64 a0_4, .bool a0_5, .int .u64 a0_6, .bool a0_7, .int .u64 a0_8, .bool a0_9], .int .i64 t163, .int .i64 t164, .int .i64 t167] rfl (by (try simp only [List.map_toArray, List.map_cons, List.map_nil]); first | done | rfl | (simp only [List.length_drop, List.length_take]; rfl)) ?_; (with_reducible refine (complineref21_On.calls k a0_0 a0_1 a0_2 a0_3 a0_4 a0_5 a0_6 a0_7 a0_8 a0_9 t163 t164 t167 true _ A7.out).mono ?_); rintro e w20 ⟨rfl, hb⟩; refine ⟨_, rfl, ?_⟩; have n0_ := Aside0.mk (blk_below (g := gb159) (o := .cells #[.int .u64 a0_0, .bool a0_1, .int .u64 a0_2, .bool a0_3, .int .u64 a0_4, .bool a0_5, .int .u64 a0_6, .bool a0_7, .int .u64 a0_8, .bool a0_9] 26 (0, 0)) (by (with_reducible repeat (first | refine blk_drewN ?_ _ | refine blk_drew ?_ | refine blk_alloc ?_ _)); refine blk_far ?_ NB159_169.out _; (with_reducible repeat (first | refine blk_drewN ?_ _ | refine blk_drew ?_ | refine blk_alloc ?_ _)); refine blk_far ?_ NB159_169.out _; (with_reducible repeat (first | refine blk_drewN ?_ _ | refine blk_drew ?_ | refine blk_alloc ?_ _)); refine blk_far ?_ NB159_169.out _; (with_reducible repeat (first | refine blk_drewN ?_ _ | refine blk_drew ?_ | refine blk_alloc ?_ _)); refine blk_far ?_ NB159_169.out _; (with_reducible repeat (first | refine blk_drewN ?_ _ | refine blk_drew ?_ | refine blk_alloc ?_ _)); refine blk_far ?_ NB159_169.out _; (with_reducible repeat (first | refine blk_drewN ?_ _ | refine blk_drew ?_ | refine blk_alloc ?_ _)); refine blk_far ?_ NB159_169.out _; (with_reducible repeat (first | refine blk_drewN ?_ _ | refine blk_drew ?_ | refine blk_alloc ?_ _)); exact BK159.out) hb); have n1_ := Aside0.mk (blk_below (g := gb169) (o := .cells #[.int .i64 t162, .int .i64 t163, .int .i64 t164, .int .i64 t165, .int .i64 t166, .int .i64 t167] 36 (0, 0)) (by (with_reducible repeat (first | refine blk_drewN ?_ _ | refine blk_drew ?_ | refine blk_alloc ?_ _)); refine blk_put (cs := #[.int .i64 t162, .int .i64 t163, .int .i64 t164, .int .i64 t165, .int .i64 t166, .int .i64 0]) ?_ 5 _ rfl; (with_reducible repeat (first | refine blk_drewN ?_ _ | refine blk_drew ?_ | refine blk_alloc ?_ _)); refine blk_put (cs := #[.int .i64 t162, .int .i64 t163, .int .i64 t164, .int .i64 t165, .int .i64 0, .int .i64 0]) ?_ 4 _ rfl; (with_reducible repeat (first | refine blk_drewN ?_ _ | refine blk_drew ?_ | refine blk_alloc ?_ _)); refine blk_put (cs := #[.int .i64 t162, .int .i64 t163, .int .i64 t164, .int .i64 0, .int .i64 0, .int .i64 0]) ?_ 3 _ rfl; (with_reducible repeat (first | refine blk_drewN ?_ _ | refine blk_drew ?_ | refine blk_alloc ?_ _)); refine blk_put (cs := #[.int .i64 t162, .int .i64 t163, .int .i64 0, .int .i64 0, .int .i64 0, .int .i64 0]) ?_ 2 _ rfl; (with_reducible repeat (first | refine blk_drewN ?_ _ | refine blk_drew ?_ | refine blk_alloc ?_ _)); refine blk_put (cs := #[.int .i64 t162, .int .i64 0, .int .i64 0, .int .i64 0, .int .i64 0, .int .i64 0]) ?_ 1 _ rfl; (with_reducible repeat (first | refine blk_drewN ?_ _ | refine blk_drew ?_ | refine blk_alloc ?_ _)); refine blk_put (cs := #[.int .i64 0, .int .i64 0, .int .i64 0, .int .i64 0, .int .i64 0, .int .i64 0]) ?_ 0 _ rfl; (with_reducible repeat (first | refine blk_drewN ?_ _ | refine blk_drew ?_ | refine blk_alloc ?_ _)); exact BK169.out) hb); have n2_ := Aside0.mk (below_step (by repeat (first | (with_reducible first | exact HB.out | apply below_alloc | apply pw_below_drewN | apply below_drew1 | refine below_set ?_ GE159.out | refine below_set ?_ GE169.out) | exact HB.out)) hb); clear BK159; clear BK169; clear HB; have BK159 := n0_; have BK169 := n1_; have HB := n2_; clear n0_ n1_ n2_; (try clear hb); (try clear hb2); (try clear hk); (try clear hi)))
          have n0_ := Aside0.mk (blk_drew BK159.out)
          have n1_ := Aside0.mk (blk_drew BK169.out)
          have n2_ := Aside0.mk (below_drew1 HB.out)
          clear BK159
          clear BK169
          clear HB
          have BK159 := n0_
          have BK169 := n1_
          have HB := n2_
          clear n0_ n1_ n2_
          refine start_ (n := 12) (S := fun w' => w'.cell? ⟨gb159, 0, none⟩ = some (.int .u64 a0_0) ∧ w'.cell? ⟨gb159, 1, none⟩ = some (.bool a0_1) ∧ w'.cell? ⟨gb159, 2, none⟩ = some (.int .u64 a0_2) ∧ w'.cell? ⟨gb159, 3, none⟩ = some (.bool a0_3) ∧ w'.cell? ⟨gb159, 4, none⟩ = some (.int .u64 a0_4) ∧ w'.cell? ⟨gb159, 5, none⟩ = some (.bool a0_5) ∧ w'.cell? ⟨gb159, 6, none⟩ = some (.int .u64 a0_6) ∧ w'.cell? ⟨gb159, 7, none⟩ = some (.bool a0_7) ∧ w'.cell? ⟨gb159, 8, none⟩ = some (.int .u64 a0_8) ∧ w'.cell? ⟨gb159, 9, none⟩ = some (.bool a0_9) ∧ w'.cell? ⟨gb169, 0, none⟩ = some (.int .i64 t162) ∧ w'.cell? ⟨gb169, 1, none⟩ = some (.int .i64 t163) ∧ w'.cell? ⟨gb169, 2, none⟩ = some (.int .i64 t164) ∧ w'.cell? ⟨gb169, 3, none⟩ = some (.int .i64 t165) ∧ w'.cell? ⟨gb169, 4, none⟩ = some (.int .i64 t166) ∧ w'.cell? ⟨gb169, 5, none⟩ = some (.int .i64 t167)) (ds := []) #[false, false, false, false, false, false, false, false, false, false, false, false] (by kernel_rfl) rfl rfl ⟨(blk_cell BK159.out 0).trans rfl, (blk_cell BK159.out 1).trans rfl, (blk_cell BK159.out 2).trans rfl, (blk_cell BK159.out 3).trans rfl, (blk_cell BK159.out 4).trans rfl, (blk_cell BK159.out 5).trans rfl, (blk_cell BK159.out 6).trans rfl, (blk_cell BK159.out 7).trans rfl, (blk_cell BK159.out 8).trans rfl, (blk_cell BK159.out 9).trans rfl, (blk_cell BK169.out 0).trans rfl, (blk_cell BK169.out 1).trans rfl, (blk_cell BK169.out 2).trans rfl, (blk_cell BK169.out 3).trans rfl, (blk_cell BK169.out 4).trans rfl, (blk_cell BK169.out 5).trans rfl⟩ (fun hHeld => ?_); refine with_tabW complineref21_Match.tab8 complineref21_Match.bits8 (fun HT_ HW_ => ?_)
          generalize w20.drew = w21 at BK159 BK169 HB hHeld ⊢
          refine pure_ (i := 0) (N := some 35) (v := ?_) (a' := ?_) #[true, false, false, false, false, false, false, false, false, false, false, false] rfl rfl (any_of HT_.out (by kernel_rfl)) (fun _ _ _ h => h) (Or.inl ⟨by rfl, ?_⟩) ?_ ?_
          rotate_left
          · intro w'
            go_simp
            with_reducible rfl
          rotate_left
          · simp only [Act.put, List.setIfInBounds_toArray, List.set_cons_zero, List.set_cons_succ, i64_w, i32_w]
            rfl
          refine pure_ (i := 2) (N := some 37) (v := ?_) (a' := ?_) #[true, false, true, false, false, false, false, false, false, false, false, false] rfl rfl (any_of HT_.out (by kernel_rfl)) (fun _ _ _ h => h) (Or.inl ⟨by rfl, ?_⟩) ?_ ?_
          rotate_left
          · intro w'
            go_simp
            with_reducible rfl
          rotate_left
          · simp only [Act.put, List.setIfInBounds_toArray, List.set_cons_zero, List.set_cons_succ, i64_w, i32_w]
            rfl
          refine pure_ (i := 5) (N := some 40) (v := ?_) (a' := ?_) #[true, false, true, false, false, true, false, false, false, false, false, false] rfl rfl (any_of HT_.out (by kernel_rfl)) (fun _ _ _ h => h) (Or.inl ⟨by rfl, ?_⟩) ?_ ?_
          rotate_left
          · intro w'
            go_simp
            with_reducible rfl
          rotate_left
          · simp only [Act.put, List.setIfInBounds_toArray, List.set_cons_zero, List.set_cons_succ, i64_w, i32_w]
            rfl
          refine pure_ (i := 7) (N := some 42) (v := ?_) (a' := ?_) #[true, false, true, false, false, true, false, true, false, false, false, false] rfl rfl (any_of HT_.out (by kernel_rfl)) (fun _ _ _ h => h) (Or.inl ⟨by rfl, ?_⟩) ?_ ?_
          rotate_left
          · intro w'
            go_simp
            with_reducible rfl
          rotate_left
          · simp only [Act.put, List.setIfInBounds_toArray, List.set_cons_zero, List.set_cons_succ, i64_w, i32_w]
            rfl
          refine take_ (i := 1) (N := some 36) (v := ?_) (a' := ?_) #[true, true, true, false, false, true, false, true, false, false, false, false] rfl rfl (take_ofW HT_.out HW_.out (by kernel_rfl)) (fun _ _ _ h => h) (Or.inl ⟨by rfl, ?_⟩) hHeld ?_ ?_
          rotate_left
          · rintro w' ⟨s0, s1, s2, s3, s4, s5, s6, s7, s8, s9, s10, s11, s12, s13, s14, s15⟩
            go_simp
            with_reducible rfl
          rotate_left
          · simp only [Act.put, List.setIfInBounds_toArray, List.set_cons_zero, List.set_cons_succ, i64_w, i32_w]
            rfl
          refine take_ (i := 3) (N := some 38) (v := ?_) (a' := ?_) #[true, true, true, true, false, true, false, true, false, false, false, false] rfl rfl (take_ofW HT_.out HW_.out (by kernel_rfl)) (fun _ _ _ h => h) (Or.inl ⟨by rfl, ?_⟩) hHeld ?_ ?_
          rotate_left
          · rintro w' ⟨s0, s1, s2, s3, s4, s5, s6, s7, s8, s9, s10, s11, s12, s13, s14, s15⟩
            go_simp
            with_reducible rfl
          rotate_left
          · simp only [Act.put, List.setIfInBounds_toArray, List.set_cons_zero, List.set_cons_succ, i64_w, i32_w]
            rfl
          refine take_ (i := 6) (N := some 41) (v := ?_) (a' := ?_) #[true, true, true, true, false, true, true, true, false, false, false, false] rfl rfl (take_ofW HT_.out HW_.out (by kernel_rfl)) (fun _ _ _ h => h) (Or.inl ⟨by rfl, ?_⟩) hHeld ?_ ?_
          rotate_left
          · rintro w' ⟨s0, s1, s2, s3, s4, s5, s6, s7, s8, s9, s10, s11, s12, s13, s14, s15⟩
            go_simp
            with_reducible rfl
          rotate_left
          · simp only [Act.put, List.setIfInBounds_toArray, List.set_cons_zero, List.set_cons_succ, i64_w, i32_w]
            rfl
          refine take_ (i := 8) (N := some 43) (v := ?_) (a' := ?_) #[true, true, true, true, false, true, true, true, true, false, false, false] rfl rfl (take_ofW HT_.out HW_.out (by kernel_rfl)) (fun _ _ _ h => h) (Or.inl ⟨by rfl, ?_⟩) hHeld ?_ ?_
          rotate_left
          · rintro w' ⟨s0, s1, s2, s3, s4, s5, s6, s7, s8, s9, s10, s11, s12, s13, s14, s15⟩
            go_simp
            with_reducible rfl
          rotate_left
          · simp only [Act.put, List.setIfInBounds_toArray, List.set_cons_zero, List.set_cons_succ, i64_w, i32_w]
            rfl
          refine one_ (i := 4) (N := some 39) #[true, true, true, true, true, true, true, true, true, false, false, false] rfl rfl (one_of HT_.out (by kernel_rfl)) (by decide) (fun K hK => ?_)
          refine goes_ Tryz.func44 (by kernel_rfl) rfl #[.agg #[.int .u64 a0_2, .bool a0_3], .int .i64 t165] (by rfl) rfl rfl (by (try simp only [List.map_toArray, List.map_cons, List.map_nil]); first | done | rfl | (simp only [List.length_drop, List.length_take]; rfl)) ?_
          with_reducible refine (complineref18_Has.calls k a0_2 a0_3 t165 true _ A8.out).mono ?_
          rintro e w22 ⟨rfl, hb⟩
          refine ⟨_, rfl, ?_⟩
          have n0_ := Aside0.mk (blk_below (g := gb159) (o := .cells #[.int .u64 a0_0, .bool a0_1, .int .u64 a0_2, .bool a0_3, .int .u64 a0_4, .bool a0_5, .int .u64 a0_6, .bool a0_7, .int .u64 a0_8, .bool a0_9] 26 (0, 0)) (by (with_reducible repeat (first | refine blk_drewN ?_ _ | refine blk_drew ?_ | refine blk_alloc ?_ _)); exact BK159.out) hb)
          have n1_ := Aside0.mk (blk_below (g := gb169) (o := .cells #[.int .i64 t162, .int .i64 t163, .int .i64 t164, .int .i64 t165, .int .i64 t166, .int .i64 t167] 36 (0, 0)) (by (with_reducible repeat (first | refine blk_drewN ?_ _ | refine blk_drew ?_ | refine blk_alloc ?_ _)); exact BK169.out) hb)
          have n2_ := Aside0.mk (below_step (by repeat (first | (with_reducible first | exact HB.out | apply below_alloc | apply pw_below_drewN | apply below_drew1 | refine below_set ?_ GE159.out | refine below_set ?_ GE169.out) | exact HB.out)) hb)
          clear BK159
          clear BK169
          clear HB
          have BK159 := n0_
          have BK169 := n1_
          have HB := n2_
          clear n0_ n1_ n2_
          (try clear hb)
          (try clear hb2)
          (try clear hk)
          (try clear hi)
          refine hK.out _ _ ⟨(blk_cell BK159.out 0).trans rfl, (blk_cell BK159.out 1).trans rfl, (blk_cell BK159.out 2).trans rfl, (blk_cell BK159.out 3).trans rfl, (blk_cell BK159.out 4).trans rfl, (blk_cell BK159.out 5).trans rfl, (blk_cell BK159.out 6).trans rfl, (blk_cell BK159.out 7).trans rfl, (blk_cell BK159.out 8).trans rfl, (blk_cell BK159.out 9).trans rfl, (blk_cell BK169.out 0).trans rfl, (blk_cell BK169.out 1).trans rfl, (blk_cell BK169.out 2).trans rfl, (blk_cell BK169.out 3).trans rfl, (blk_cell BK169.out 4).trans rfl, (blk_cell BK169.out 5).trans rfl⟩ (fun hHeld => ?_)
          clear hK K
          refine norm_ (a' := ?_) ?_ ?_
          rotate_left
          · show Act.put _ (some 39) _ = _
            simp only [Act.put, List.setIfInBounds_toArray, List.set_cons_zero, List.set_cons_succ, i64_w, i32_w]
            rfl
          refine one_ (i := 9) (N := some 44) #[true, true, true, true, true, true, true, true, true, true, false, false] rfl rfl (one_of HT_.out (by kernel_rfl)) (by decide) (fun K hK => ?_)
          refine goes_ Tryz.func44 (by kernel_rfl) rfl #[.agg #[.int .u64 a0_0, .bool a0_1], .int .i64 t166] (by rfl) rfl rfl (by (try simp only [List.map_toArray, List.map_cons, List.map_nil]); first | done | rfl | (simp only [List.length_drop, List.length_take]; rfl)) ?_
          with_reducible refine (complineref18_Has.calls k a0_0 a0_1 t166 t172 _ A9.out).mono ?_
          rintro e w23 ⟨rfl, hb⟩
          refine ⟨_, rfl, ?_⟩
          have n0_ := Aside0.mk (blk_below (g := gb159) (o := .cells #[.int .u64 a0_0, .bool a0_1, .int .u64 a0_2, .bool a0_3, .int .u64 a0_4, .bool a0_5, .int .u64 a0_6, .bool a0_7, .int .u64 a0_8, .bool a0_9] 26 (0, 0)) (by (with_reducible repeat (first | refine blk_drewN ?_ _ | refine blk_drew ?_ | refine blk_alloc ?_ _)); exact BK159.out) hb)
          have n1_ := Aside0.mk (blk_below (g := gb169) (o := .cells #[.int .i64 t162, .int .i64 t163, .int .i64 t164, .int .i64 t165, .int .i64 t166, .int .i64 t167] 36 (0, 0)) (by (with_reducible repeat (first | refine blk_drewN ?_ _ | refine blk_drew ?_ | refine blk_alloc ?_ _)); exact BK169.out) hb)
          have n2_ := Aside0.mk (below_step (by repeat (first | (with_reducible first | exact HB.out | apply below_alloc | apply pw_below_drewN | apply below_drew1 | refine below_set ?_ GE159.out | refine below_set ?_ GE169.out) | exact HB.out)) hb)
          clear BK159
          clear BK169
          clear HB
          have BK159 := n0_
          have BK169 := n1_
          have HB := n2_
          clear n0_ n1_ n2_
          (try clear hb)
          (try clear hb2)
          (try clear hk)
          (try clear hi)
          refine hK.out _ _ ⟨(blk_cell BK159.out 0).trans rfl, (blk_cell BK159.out 1).trans rfl, (blk_cell BK159.out 2).trans rfl, (blk_cell BK159.out 3).trans rfl, (blk_cell BK159.out 4).trans rfl, (blk_cell BK159.out 5).trans rfl, (blk_cell BK159.out 6).trans rfl, (blk_cell BK159.out 7).trans rfl, (blk_cell BK159.out 8).trans rfl, (blk_cell BK159.out 9).trans rfl, (blk_cell BK169.out 0).trans rfl, (blk_cell BK169.out 1).trans rfl, (blk_cell BK169.out 2).trans rfl, (blk_cell BK169.out 3).trans rfl, (blk_cell BK169.out 4).trans rfl, (blk_cell BK169.out 5).trans rfl⟩ (fun hHeld => ?_)
          clear hK K
          refine norm_ (a' := ?_) ?_ ?_
          rotate_left
          · show Act.put _ (some 44) _ = _
            simp only [Act.put, List.setIfInBounds_toArray, List.set_cons_zero, List.set_cons_succ, i64_w, i32_w]
            rfl
          refine pure_ (i := 10) (N := some 11) (v := ?_) (a' := ?_) #[true, true, true, true, true, true, true, true, true, true, true, false] rfl rfl (any_of HT_.out (by kernel_rfl)) (fun _ _ _ h => h) (Or.inl ⟨by rfl, ?_⟩) ?_ ?_
          rotate_left
          · intro w'
            go_simp
            with_reducible rfl
          rotate_left
          · simp only [Act.put, List.setIfInBounds_toArray, List.set_cons_zero, List.set_cons_succ, i64_w, i32_w]
            rfl
          refine pure_ (i := 11) (N := some 12) (v := ?_) (a' := ?_) #[true, true, true, true, true, true, true, true, true, true, true, true] rfl rfl (any_of HT_.out (by kernel_rfl)) (fun _ _ _ h => h) (Or.inl ⟨by rfl, ?_⟩) ?_ ?_
          rotate_left
          · intro w'
            go_simp
            with_reducible rfl
          rotate_left
          · simp only [Act.put, List.setIfInBounds_toArray, List.set_cons_zero, List.set_cons_succ, i64_w, i32_w]
            rfl
          refine done_ (done_of HT_.out (by kernel_rfl)) ?_
          try go_wp2
          go_ret2
          exact ⟨by first | rfl | (simp [errW_none, errW_some] <;> rfl) | (simp [*, errW_none, errW_some] <;> rfl), by repeat (first | (with_reducible first | exact HB.out | apply below_alloc | apply pw_below_drewN | apply below_drew1 | refine below_set ?_ GE159.out | refine below_set ?_ GE169.out) | exact HB.out)⟩
        · replace c11 := Bool.eq_false_iff.mpr c11
          subst c11
          have H1 : (some (false, 0)) = some (r1, r2) := by rw [if_neg (show ¬ (false = true) by decide)] at H; exact H
          clear H
          have H := H1
          clear H1
          simp only [Option.some.injEq, Prod.mk.injEq] at H
          obtain ⟨rfl, rfl⟩ := H
          go_enter Tryz.func16, Tryz.ntmps16
          try go_wp2_with (first | ((with_reducible refine gate_dst (N := 2) rfl ?_); refine box_event ?hg (N := 2) ?hd (cs := #[.int .u64 a0_0, .bool a0_1, .int .u64 a0_2, .bool a0_3, .int .u64 a0_4, .bool a0_5, .int .u64 a0_6, .bool a0_7, .int .u64 a0_8, .bool a0_9]) (t := 26) ?hr ?_; (case hd => rfl); (case hg => rfl); (case hr => first | (go_simp; done) | (go_simp; rfl)); intro gb159 hg w24 hbox hb; have n0_ := Aside0.mk (below_step (by repeat (first | (with_reducible first | exact HB.out | apply below_alloc | apply pw_below_drewN | apply below_drew1) | exact HB.out)) hb); have n1_ := Aside0.mk (hbox); have n2_ := Aside0.mk ((by rw [hg]; exact (below_size (by repeat (first | (with_reducible first | exact HB.out | apply below_alloc | apply pw_below_drewN | apply below_drew1) | exact HB.out))) : w.heap.size ≤ gb159)); have n3_ := Aside0.mk ((by rw [hg]; exact (below_size (by repeat (first | (with_reducible first | exact HB.out | apply below_alloc | apply pw_below_drewN | apply below_drew1) | exact HB.out))) : w.heap.size ≤ gb159)); clear HB; have HB := n0_; have BK159 := n1_; have GW159 := n2_; have GE159 := n3_; clear n0_ n1_ n2_ n3_; clear hb hbox hg; have hcz25_0 : w24.cell? ⟨gb159, 0, none⟩ = some (.int .u64 a0_0) := (blk_cell BK159.out 0).trans rfl; have hcz25_1 : w24.cell? ⟨gb159, 1, none⟩ = some (.bool a0_1) := (blk_cell BK159.out 1).trans rfl; have hcz25_2 : w24.cell? ⟨gb159, 2, none⟩ = some (.int .u64 a0_2) := (blk_cell BK159.out 2).trans rfl; have hcz25_3 : w24.cell? ⟨gb159, 3, none⟩ = some (.bool a0_3) := (blk_cell BK159.out 3).trans rfl; have hcz25_4 : w24.cell? ⟨gb159, 4, none⟩ = some (.int .u64 a0_4) := (blk_cell BK159.out 4).trans rfl; have hcz25_5 : w24.cell? ⟨gb159, 5, none⟩ = some (.bool a0_5) := (blk_cell BK159.out 5).trans rfl; have hcz25_6 : w24.cell? ⟨gb159, 6, none⟩ = some (.int .u64 a0_6) := (blk_cell BK159.out 6).trans rfl; have hcz25_7 : w24.cell? ⟨gb159, 7, none⟩ = some (.bool a0_7) := (blk_cell BK159.out 7).trans rfl; have hcz25_8 : w24.cell? ⟨gb159, 8, none⟩ = some (.int .u64 a0_8) := (blk_cell BK159.out 8).trans rfl; have hcz25_9 : w24.cell? ⟨gb159, 9, none⟩ = some (.bool a0_9) := (blk_cell BK159.out 9).trans rfl; have hfz25_0 := blk_frozen BK159.out 0; have hfz25_1 := blk_frozen BK159.out 1; have hfz25_2 := blk_frozen BK159.out 2; have hfz25_3 := blk_frozen BK159.out 3; have hfz25_4 := blk_frozen BK159.out 4; have hfz25_5 := blk_frozen BK159.out 5; have hfz25_6 := blk_frozen BK159.out 6; have hfz25_7 := blk_frozen BK159.out 7; have hfz25_8 := blk_frozen BK159.out 8; have hfz25_9 := blk_frozen BK159.out 9) | ((with_reducible refine gate_callee (f := 41) rfl ?_); refine goesL_ (some 15) rfl rfl Tryz.func41 (by kernel_rfl) rfl #[.agg #[.int .u64 a0_0, .bool a0_1, .int .u64 a0_2, .bool a0_3, .int .u64 a0_4, .bool a0_5, .int .u64 a0_6, .bool a0_7, .int .u64 a0_8, .bool a0_9]] rfl (by (try simp only [List.map_toArray, List.map_cons, List.map_nil]); first | done | rfl | (simp only [List.length_drop, List.length_take]; rfl)) ?_; (with_reducible refine (complineref19_Check.calls k a0_0 a0_1 a0_2 a0_3 a0_4 a0_5 a0_6 a0_7 a0_8 a0_9 t160 t161 _ A3.out).mono ?_); rintro e w26 ⟨rfl, hb⟩; refine ⟨_, rfl, ?_⟩; have n0_ := Aside0.mk (blk_below (g := gb159) (o := .cells #[.int .u64 a0_0, .bool a0_1, .int .u64 a0_2, .bool a0_3, .int .u64 a0_4, .bool a0_5, .int .u64 a0_6, .bool a0_7, .int .u64 a0_8, .bool a0_9] 26 (0, 0)) (by (with_reducible repeat (first | refine blk_drewN ?_ _ | refine blk_drew ?_ | refine blk_alloc ?_ _)); exact BK159.out) hb); have n1_ := Aside0.mk (below_step (by repeat (first | (with_reducible first | exact HB.out | apply below_alloc | apply pw_below_drewN | apply below_drew1 | refine below_set ?_ GE159.out) | exact HB.out)) hb); clear BK159; clear HB; have BK159 := n0_; have HB := n1_; clear n0_ n1_; (try clear hb); (try clear hb2); (try clear hk); (try clear hi)) | ((with_reducible refine gate_callee (f := 42) rfl ?_); refine goesL_ (some 22) rfl rfl Tryz.func42 (by kernel_rfl) rfl #[.int .i64 a1] rfl (by (try simp only [List.map_toArray, List.map_cons, List.map_nil]); first | done | rfl | (simp only [List.length_drop, List.length_take]; rfl)) ?_; (with_reducible refine (complineref16_Of.calls k a1 t162 t163 t164 t165 t166 t167 t168 _ A5.out).mono ?_); rintro e w27 ⟨rfl, hb⟩; refine ⟨_, rfl, ?_⟩; have n0_ := Aside0.mk (blk_below (g := gb159) (o := .cells #[.int .u64 a0_0, .bool a0_1, .int .u64 a0_2, .bool a0_3, .int .u64 a0_4, .bool a0_5, .int .u64 a0_6, .bool a0_7, .int .u64 a0_8, .bool a0_9] 26 (0, 0)) (by (with_reducible repeat (first | refine blk_drewN ?_ _ | refine blk_drew ?_ | refine blk_alloc ?_ _)); exact BK159.out) hb); have n1_ := Aside0.mk (below_step (by repeat (first | (with_reducible first | exact HB.out | apply below_alloc | apply pw_below_drewN | apply below_drew1 | refine below_set ?_ GE159.out) | exact HB.out)) hb); clear BK159; clear HB; have BK159 := n0_; have HB := n1_; clear n0_ n1_; (try clear hb); (try clear hb2); (try clear hk); (try clear hi)) | ((with_reducible refine gate_dst (N := 8) rfl ?_); refine box_event ?hg (N := 8) ?hd (cs := #[.int .i64 0, .int .i64 0, .int .i64 0, .int .i64 0, .int .i64 0, .int .i64 0]) (t := 36) ?hr ?_; (case hd => rfl); (case hg => rfl); (case hr => first | (go_simp; done) | (go_simp; rfl)); intro gb169 hg w28 hbox hb; have n0_ := Aside0.mk (blk_below (g := gb159) (o := .cells #[.int .u64 a0_0, .bool a0_1, .int .u64 a0_2, .bool a0_3, .int .u64 a0_4, .bool a0_5, .int .u64 a0_6, .bool a0_7, .int .u64 a0_8, .bool a0_9] 26 (0, 0)) (by (with_reducible repeat (first | refine blk_drewN ?_ _ | refine blk_drew ?_ | refine blk_alloc ?_ _)); exact BK159.out) hb); have n1_ := Aside0.mk (below_step (by repeat (first | (with_reducible first | exact HB.out | apply below_alloc | apply pw_below_drewN | apply below_drew1 | refine below_set ?_ GE159.out) | exact HB.out)) hb); have n2_ := Aside0.mk (hbox); have n3_ := Aside0.mk ((by rw [hg]; exact (below_size (by repeat (first | (with_reducible first | exact HB.out | apply below_alloc | apply pw_below_drewN | apply below_drew1 | refine below_set ?_ GE159.out) | exact HB.out))) : w.heap.size ≤ gb169)); have n4_ := Aside0.mk ((by rw [hg]; exact (below_size (by repeat (first | (with_reducible first | exact HB.out | apply below_alloc | apply pw_below_drewN | apply below_drew1 | refine below_set ?_ GE159.out) | exact HB.out))) : w.heap.size ≤ gb169)); have n5_ := Aside0.mk ((by rw [hg]; exact Nat.ne_of_lt (blk_lt (g := gb159) (o := .cells #[.int .u64 a0_0, .bool a0_1, .int .u64 a0_2, .bool a0_3, .int .u64 a0_4, .bool a0_5, .int .u64 a0_6, .bool a0_7, .int .u64 a0_8, .bool a0_9] 26 (0, 0)) (by (with_reducible repeat (first | refine blk_drewN ?_ _ | refine blk_drew ?_ | refine blk_alloc ?_ _)); exact BK159.out)) : gb159 ≠ gb169)); have n6_ := Aside0.mk ((by rw [hg]; exact Nat.ne_of_gt (blk_lt (g := gb159) (o := .cells #[.int .u64 a0_0, .bool a0_1, .int .u64 a0_2, .bool a0_3, .int .u64 a0_4, .bool a0_5, .int .u64 a0_6, .bool a0_7, .int .u64 a0_8, .bool a0_9] 26 (0, 0)) (by (with_reducible repeat (first | refine blk_drewN ?_ _ | refine blk_drew ?_ | refine blk_alloc ?_ _)); exact BK159.out)) : gb169 ≠ gb159)); clear BK159; clear HB; have BK159 := n0_; have HB := n1_; have BK169 := n2_; have GW169 := n3_; have GE169 := n4_; have NB159_169 := n5_; have NB169_159 := n6_; clear n0_ n1_ n2_ n3_ n4_ n5_ n6_; clear hb hbox hg; have hnb29 := NB169_159.out; have hnc29 := NB159_169.out; have hcz30_0 : w28.cell? ⟨gb169, 0, none⟩ = some (.int .i64 0) := (blk_cell BK169.out 0).trans rfl; have hcz30_1 : w28.cell? ⟨gb169, 1, none⟩ = some (.int .i64 0) := (blk_cell BK169.out 1).trans rfl; have hcz30_2 : w28.cell? ⟨gb169, 2, none⟩ = some (.int .i64 0) := (blk_cell BK169.out 2).trans rfl; have hcz30_3 : w28.cell? ⟨gb169, 3, none⟩ = some (.int .i64 0) := (blk_cell BK169.out 3).trans rfl; have hcz30_4 : w28.cell? ⟨gb169, 4, none⟩ = some (.int .i64 0) := (blk_cell BK169.out 4).trans rfl; have hcz30_5 : w28.cell? ⟨gb169, 5, none⟩ = some (.int .i64 0) := (blk_cell BK169.out 5).trans rfl; have hfz30_0 := blk_frozen BK169.out 0; have hfz30_1 := blk_frozen BK169.out 1; have hfz30_2 := blk_frozen BK169.out 2; have hfz30_3 := blk_frozen BK169.out 3; have hfz30_4 := blk_frozen BK169.out 4; have hfz30_5 := blk_frozen BK169.out 5; have hcz31_0 : w28.cell? ⟨gb159, 0, none⟩ = some (.int .u64 a0_0) := (blk_cell BK159.out 0).trans rfl; have hcz31_1 : w28.cell? ⟨gb159, 1, none⟩ = some (.bool a0_1) := (blk_cell BK159.out 1).trans rfl; have hcz31_2 : w28.cell? ⟨gb159, 2, none⟩ = some (.int .u64 a0_2) := (blk_cell BK159.out 2).trans rfl; have hcz31_3 : w28.cell? ⟨gb159, 3, none⟩ = some (.bool a0_3) := (blk_cell BK159.out 3).trans rfl; have hcz31_4 : w28.cell? ⟨gb159, 4, none⟩ = some (.int .u64 a0_4) := (blk_cell BK159.out 4).trans rfl; have hcz31_5 : w28.cell? ⟨gb159, 5, none⟩ = some (.bool a0_5) := (blk_cell BK159.out 5).trans rfl; have hcz31_6 : w28.cell? ⟨gb159, 6, none⟩ = some (.int .u64 a0_6) := (blk_cell BK159.out 6).trans rfl; have hcz31_7 : w28.cell? ⟨gb159, 7, none⟩ = some (.bool a0_7) := (blk_cell BK159.out 7).trans rfl; have hcz31_8 : w28.cell? ⟨gb159, 8, none⟩ = some (.int .u64 a0_8) := (blk_cell BK159.out 8).trans rfl; have hcz31_9 : w28.cell? ⟨gb159, 9, none⟩ = some (.bool a0_9) := (blk_cell BK159.out 9).trans rfl; have hfz31_0 := blk_frozen BK159.out 0; have hfz31_1 := blk_frozen BK159.out 1; have hfz31_2 := blk_frozen BK159.out 2; have hfz31_3 := blk_frozen BK159.out 3; have hfz31_4 := blk_frozen BK159.out 4; have hfz31_5 := blk_frozen BK159.out 5; have hfz31_6 := blk_frozen BK159.out 6; have hfz31_7 := blk_frozen BK159.out 7; have hfz31_8 := blk_frozen BK159.out 8; have hfz31_9 := blk_frozen BK159.out 9) | ((with_reducible refine gate_callee (f := 43) rfl ?_); refine goesL_ (some 34) rfl rfl Tryz.func43 (by kernel_rfl) rfl #[.agg #[.int .u64 a0_0, .bool a0_1, .int .u64 a0_2, .bool a0_3, .int .u64 a0_4, .bool a0_5, .int .u64 a0_6, .bool a0_7, .int .u64 a0_8, .bool a0_9], .int .i64 t163, .int .i64 t164, .int .i64 t167] rfl (by (try simp only [List.map_toArray, List.map_cons, List.map_nil]); first | done | rfl | (simp only [List.length_drop, List.length_take]; rfl)) ?_; (with_reducible refine (complineref21_On.calls k a0_0 a0_1 a0_2 a0_3 a0_4 a0_5 a0_6 a0_7 a0_8 a0_9 t163 t164 t167 true _ A7.out).mono ?_); rintro e w32 ⟨rfl, hb⟩; refine ⟨_, rfl, ?_⟩; have n0_ := Aside0.mk (blk_below (g := gb159) (o := .cells #[.int .u64 a0_0, .bool a0_1, .int .u64 a0_2, .bool a0_3, .int .u64 a0_4, .bool a0_5, .int .u64 a0_6, .bool a0_7, .int .u64 a0_8, .bool a0_9] 26 (0, 0)) (by (with_reducible repeat (first | refine blk_drewN ?_ _ | refine blk_drew ?_ | refine blk_alloc ?_ _)); refine blk_far ?_ NB159_169.out _; (with_reducible repeat (first | refine blk_drewN ?_ _ | refine blk_drew ?_ | refine blk_alloc ?_ _)); refine blk_far ?_ NB159_169.out _; (with_reducible repeat (first | refine blk_drewN ?_ _ | refine blk_drew ?_ | refine blk_alloc ?_ _)); refine blk_far ?_ NB159_169.out _; (with_reducible repeat (first | refine blk_drewN ?_ _ | refine blk_drew ?_ | refine blk_alloc ?_ _)); refine blk_far ?_ NB159_169.out _; (with_reducible repeat (first | refine blk_drewN ?_ _ | refine blk_drew ?_ | refine blk_alloc ?_ _)); refine blk_far ?_ NB159_169.out _; (with_reducible repeat (first | refine blk_drewN ?_ _ | refine blk_drew ?_ | refine blk_alloc ?_ _)); refine blk_far ?_ NB159_169.out _; (with_reducible repeat (first | refine blk_drewN ?_ _ | refine blk_drew ?_ | refine blk_alloc ?_ _)); exact BK159.out) hb); have n1_ := Aside0.mk (blk_below (g := gb169) (o := .cells #[.int .i64 t162, .int .i64 t163, .int .i64 t164, .int .i64 t165, .int .i64 t166, .int .i64 t167] 36 (0, 0)) (by (with_reducible repeat (first | refine blk_drewN ?_ _ | refine blk_drew ?_ | refine blk_alloc ?_ _)); refine blk_put (cs := #[.int .i64 t162, .int .i64 t163, .int .i64 t164, .int .i64 t165, .int .i64 t166, .int .i64 0]) ?_ 5 _ rfl; (with_reducible repeat (first | refine blk_drewN ?_ _ | refine blk_drew ?_ | refine blk_alloc ?_ _)); refine blk_put (cs := #[.int .i64 t162, .int .i64 t163, .int .i64 t164, .int .i64 t165, .int .i64 0, .int .i64 0]) ?_ 4 _ rfl; (with_reducible repeat (first | refine blk_drewN ?_ _ | refine blk_drew ?_ | refine blk_alloc ?_ _)); refine blk_put (cs := #[.int .i64 t162, .int .i64 t163, .int .i64 t164, .int .i64 0, .int .i64 0, .int .i64 0]) ?_ 3 _ rfl; (with_reducible repeat (first | refine blk_drewN ?_ _ | refine blk_drew ?_ | refine blk_alloc ?_ _)); refine blk_put (cs := #[.int .i64 t162, .int .i64 t163, .int .i64 0, .int .i64 0, .int .i64 0, .int .i64 0]) ?_ 2 _ rfl; (with_reducible repeat (first | refine blk_drewN ?_ _ | refine blk_drew ?_ | refine blk_alloc ?_ _)); refine blk_put (cs := #[.int .i64 t162, .int .i64 0, .int .i64 0, .int .i64 0, .int .i64 0, .int .i64 0]) ?_ 1 _ rfl; (with_reducible repeat (first | refine blk_drewN ?_ _ | refine blk_drew ?_ | refine blk_alloc ?_ _)); refine blk_put (cs := #[.int .i64 0, .int .i64 0, .int .i64 0, .int .i64 0, .int .i64 0, .int .i64 0]) ?_ 0 _ rfl; (with_reducible repeat (first | refine blk_drewN ?_ _ | refine blk_drew ?_ | refine blk_alloc ?_ _)); exact BK169.out) hb); have n2_ := Aside0.mk (below_step (by repeat (first | (with_reducible first | exact HB.out | apply below_alloc | apply pw_below_drewN | apply below_drew1 | refine below_set ?_ GE159.out | refine below_set ?_ GE169.out) | exact HB.out)) hb); clear BK159; clear BK169; clear HB; have BK159 := n0_; have BK169 := n1_; have HB := n2_; clear n0_ n1_ n2_; (try clear hb); (try clear hb2); (try clear hk); (try clear hi)))
          have n0_ := Aside0.mk (blk_drew BK159.out)
          have n1_ := Aside0.mk (blk_drew BK169.out)
          have n2_ := Aside0.mk (below_drew1 HB.out)
          clear BK159
          clear BK169
          clear HB
          have BK159 := n0_
          have BK169 := n1_
          have HB := n2_
          clear n0_ n1_ n2_
          refine start_ (n := 12) (S := fun w' => w'.cell? ⟨gb159, 0, none⟩ = some (.int .u64 a0_0) ∧ w'.cell? ⟨gb159, 1, none⟩ = some (.bool a0_1) ∧ w'.cell? ⟨gb159, 2, none⟩ = some (.int .u64 a0_2) ∧ w'.cell? ⟨gb159, 3, none⟩ = some (.bool a0_3) ∧ w'.cell? ⟨gb159, 4, none⟩ = some (.int .u64 a0_4) ∧ w'.cell? ⟨gb159, 5, none⟩ = some (.bool a0_5) ∧ w'.cell? ⟨gb159, 6, none⟩ = some (.int .u64 a0_6) ∧ w'.cell? ⟨gb159, 7, none⟩ = some (.bool a0_7) ∧ w'.cell? ⟨gb159, 8, none⟩ = some (.int .u64 a0_8) ∧ w'.cell? ⟨gb159, 9, none⟩ = some (.bool a0_9) ∧ w'.cell? ⟨gb169, 0, none⟩ = some (.int .i64 t162) ∧ w'.cell? ⟨gb169, 1, none⟩ = some (.int .i64 t163) ∧ w'.cell? ⟨gb169, 2, none⟩ = some (.int .i64 t164) ∧ w'.cell? ⟨gb169, 3, none⟩ = some (.int .i64 t165) ∧ w'.cell? ⟨gb169, 4, none⟩ = some (.int .i64 t166) ∧ w'.cell? ⟨gb169, 5, none⟩ = some (.int .i64 t167)) (ds := []) #[false, false, false, false, false, false, false, false, false, false, false, false] (by kernel_rfl) rfl rfl ⟨(blk_cell BK159.out 0).trans rfl, (blk_cell BK159.out 1).trans rfl, (blk_cell BK159.out 2).trans rfl, (blk_cell BK159.out 3).trans rfl, (blk_cell BK159.out 4).trans rfl, (blk_cell BK159.out 5).trans rfl, (blk_cell BK159.out 6).trans rfl, (blk_cell BK159.out 7).trans rfl, (blk_cell BK159.out 8).trans rfl, (blk_cell BK159.out 9).trans rfl, (blk_cell BK169.out 0).trans rfl, (blk_cell BK169.out 1).trans rfl, (blk_cell BK169.out 2).trans rfl, (blk_cell BK169.out 3).trans rfl, (blk_cell BK169.out 4).trans rfl, (blk_cell BK169.out 5).trans rfl⟩ (fun hHeld => ?_); refine with_tabW complineref21_Match.tab8 complineref21_Match.bits8 (fun HT_ HW_ => ?_)
          generalize w32.drew = w33 at BK159 BK169 HB hHeld ⊢
          refine pure_ (i := 0) (N := some 35) (v := ?_) (a' := ?_) #[true, false, false, false, false, false, false, false, false, false, false, false] rfl rfl (any_of HT_.out (by kernel_rfl)) (fun _ _ _ h => h) (Or.inl ⟨by rfl, ?_⟩) ?_ ?_
          rotate_left
          · intro w'
            go_simp
            with_reducible rfl
          rotate_left
          · simp only [Act.put, List.setIfInBounds_toArray, List.set_cons_zero, List.set_cons_succ, i64_w, i32_w]
            rfl
          refine pure_ (i := 2) (N := some 37) (v := ?_) (a' := ?_) #[true, false, true, false, false, false, false, false, false, false, false, false] rfl rfl (any_of HT_.out (by kernel_rfl)) (fun _ _ _ h => h) (Or.inl ⟨by rfl, ?_⟩) ?_ ?_
          rotate_left
          · intro w'
            go_simp
            with_reducible rfl
          rotate_left
          · simp only [Act.put, List.setIfInBounds_toArray, List.set_cons_zero, List.set_cons_succ, i64_w, i32_w]
            rfl
          refine pure_ (i := 5) (N := some 40) (v := ?_) (a' := ?_) #[true, false, true, false, false, true, false, false, false, false, false, false] rfl rfl (any_of HT_.out (by kernel_rfl)) (fun _ _ _ h => h) (Or.inl ⟨by rfl, ?_⟩) ?_ ?_
          rotate_left
          · intro w'
            go_simp
            with_reducible rfl
          rotate_left
          · simp only [Act.put, List.setIfInBounds_toArray, List.set_cons_zero, List.set_cons_succ, i64_w, i32_w]
            rfl
          refine pure_ (i := 7) (N := some 42) (v := ?_) (a' := ?_) #[true, false, true, false, false, true, false, true, false, false, false, false] rfl rfl (any_of HT_.out (by kernel_rfl)) (fun _ _ _ h => h) (Or.inl ⟨by rfl, ?_⟩) ?_ ?_
          rotate_left
          · intro w'
            go_simp
            with_reducible rfl
          rotate_left
          · simp only [Act.put, List.setIfInBounds_toArray, List.set_cons_zero, List.set_cons_succ, i64_w, i32_w]
            rfl
          refine take_ (i := 1) (N := some 36) (v := ?_) (a' := ?_) #[true, true, true, false, false, true, false, true, false, false, false, false] rfl rfl (take_ofW HT_.out HW_.out (by kernel_rfl)) (fun _ _ _ h => h) (Or.inl ⟨by rfl, ?_⟩) hHeld ?_ ?_
          rotate_left
          · rintro w' ⟨s0, s1, s2, s3, s4, s5, s6, s7, s8, s9, s10, s11, s12, s13, s14, s15⟩
            go_simp
            with_reducible rfl
          rotate_left
          · simp only [Act.put, List.setIfInBounds_toArray, List.set_cons_zero, List.set_cons_succ, i64_w, i32_w]
            rfl
          refine take_ (i := 3) (N := some 38) (v := ?_) (a' := ?_) #[true, true, true, true, false, true, false, true, false, false, false, false] rfl rfl (take_ofW HT_.out HW_.out (by kernel_rfl)) (fun _ _ _ h => h) (Or.inl ⟨by rfl, ?_⟩) hHeld ?_ ?_
          rotate_left
          · rintro w' ⟨s0, s1, s2, s3, s4, s5, s6, s7, s8, s9, s10, s11, s12, s13, s14, s15⟩
            go_simp
            with_reducible rfl
          rotate_left
          · simp only [Act.put, List.setIfInBounds_toArray, List.set_cons_zero, List.set_cons_succ, i64_w, i32_w]
            rfl
          refine take_ (i := 6) (N := some 41) (v := ?_) (a' := ?_) #[true, true, true, true, false, true, true, true, false, false, false, false] rfl rfl (take_ofW HT_.out HW_.out (by kernel_rfl)) (fun _ _ _ h => h) (Or.inl ⟨by rfl, ?_⟩) hHeld ?_ ?_
          rotate_left
          · rintro w' ⟨s0, s1, s2, s3, s4, s5, s6, s7, s8, s9, s10, s11, s12, s13, s14, s15⟩
            go_simp
            with_reducible rfl
          rotate_left
          · simp only [Act.put, List.setIfInBounds_toArray, List.set_cons_zero, List.set_cons_succ, i64_w, i32_w]
            rfl
          refine take_ (i := 8) (N := some 43) (v := ?_) (a' := ?_) #[true, true, true, true, false, true, true, true, true, false, false, false] rfl rfl (take_ofW HT_.out HW_.out (by kernel_rfl)) (fun _ _ _ h => h) (Or.inl ⟨by rfl, ?_⟩) hHeld ?_ ?_
          rotate_left
          · rintro w' ⟨s0, s1, s2, s3, s4, s5, s6, s7, s8, s9, s10, s11, s12, s13, s14, s15⟩
            go_simp
            with_reducible rfl
          rotate_left
          · simp only [Act.put, List.setIfInBounds_toArray, List.set_cons_zero, List.set_cons_succ, i64_w, i32_w]
            rfl
          refine one_ (i := 4) (N := some 39) #[true, true, true, true, true, true, true, true, true, false, false, false] rfl rfl (one_of HT_.out (by kernel_rfl)) (by decide) (fun K hK => ?_)
          refine goes_ Tryz.func44 (by kernel_rfl) rfl #[.agg #[.int .u64 a0_2, .bool a0_3], .int .i64 t165] (by rfl) rfl rfl (by (try simp only [List.map_toArray, List.map_cons, List.map_nil]); first | done | rfl | (simp only [List.length_drop, List.length_take]; rfl)) ?_
          with_reducible refine (complineref18_Has.calls k a0_2 a0_3 t165 false _ A8.out).mono ?_
          rintro e w34 ⟨rfl, hb⟩
          refine ⟨_, rfl, ?_⟩
          have n0_ := Aside0.mk (blk_below (g := gb159) (o := .cells #[.int .u64 a0_0, .bool a0_1, .int .u64 a0_2, .bool a0_3, .int .u64 a0_4, .bool a0_5, .int .u64 a0_6, .bool a0_7, .int .u64 a0_8, .bool a0_9] 26 (0, 0)) (by (with_reducible repeat (first | refine blk_drewN ?_ _ | refine blk_drew ?_ | refine blk_alloc ?_ _)); exact BK159.out) hb)
          have n1_ := Aside0.mk (blk_below (g := gb169) (o := .cells #[.int .i64 t162, .int .i64 t163, .int .i64 t164, .int .i64 t165, .int .i64 t166, .int .i64 t167] 36 (0, 0)) (by (with_reducible repeat (first | refine blk_drewN ?_ _ | refine blk_drew ?_ | refine blk_alloc ?_ _)); exact BK169.out) hb)
          have n2_ := Aside0.mk (below_step (by repeat (first | (with_reducible first | exact HB.out | apply below_alloc | apply pw_below_drewN | apply below_drew1 | refine below_set ?_ GE159.out | refine below_set ?_ GE169.out) | exact HB.out)) hb)
          clear BK159
          clear BK169
          clear HB
          have BK159 := n0_
          have BK169 := n1_
          have HB := n2_
          clear n0_ n1_ n2_
          (try clear hb)
          (try clear hb2)
          (try clear hk)
          (try clear hi)
          refine hK.out _ _ ⟨(blk_cell BK159.out 0).trans rfl, (blk_cell BK159.out 1).trans rfl, (blk_cell BK159.out 2).trans rfl, (blk_cell BK159.out 3).trans rfl, (blk_cell BK159.out 4).trans rfl, (blk_cell BK159.out 5).trans rfl, (blk_cell BK159.out 6).trans rfl, (blk_cell BK159.out 7).trans rfl, (blk_cell BK159.out 8).trans rfl, (blk_cell BK159.out 9).trans rfl, (blk_cell BK169.out 0).trans rfl, (blk_cell BK169.out 1).trans rfl, (blk_cell BK169.out 2).trans rfl, (blk_cell BK169.out 3).trans rfl, (blk_cell BK169.out 4).trans rfl, (blk_cell BK169.out 5).trans rfl⟩ (fun hHeld => ?_)
          clear hK K
          refine norm_ (a' := ?_) ?_ ?_
          rotate_left
          · show Act.put _ (some 39) _ = _
            simp only [Act.put, List.setIfInBounds_toArray, List.set_cons_zero, List.set_cons_succ, i64_w, i32_w]
            rfl
          refine one_ (i := 9) (N := some 44) #[true, true, true, true, true, true, true, true, true, true, false, false] rfl rfl (one_of HT_.out (by kernel_rfl)) (by decide) (fun K hK => ?_)
          refine goes_ Tryz.func44 (by kernel_rfl) rfl #[.agg #[.int .u64 a0_0, .bool a0_1], .int .i64 t166] (by rfl) rfl rfl (by (try simp only [List.map_toArray, List.map_cons, List.map_nil]); first | done | rfl | (simp only [List.length_drop, List.length_take]; rfl)) ?_
          with_reducible refine (complineref18_Has.calls k a0_0 a0_1 t166 t172 _ A9.out).mono ?_
          rintro e w35 ⟨rfl, hb⟩
          refine ⟨_, rfl, ?_⟩
          have n0_ := Aside0.mk (blk_below (g := gb159) (o := .cells #[.int .u64 a0_0, .bool a0_1, .int .u64 a0_2, .bool a0_3, .int .u64 a0_4, .bool a0_5, .int .u64 a0_6, .bool a0_7, .int .u64 a0_8, .bool a0_9] 26 (0, 0)) (by (with_reducible repeat (first | refine blk_drewN ?_ _ | refine blk_drew ?_ | refine blk_alloc ?_ _)); exact BK159.out) hb)
          have n1_ := Aside0.mk (blk_below (g := gb169) (o := .cells #[.int .i64 t162, .int .i64 t163, .int .i64 t164, .int .i64 t165, .int .i64 t166, .int .i64 t167] 36 (0, 0)) (by (with_reducible repeat (first | refine blk_drewN ?_ _ | refine blk_drew ?_ | refine blk_alloc ?_ _)); exact BK169.out) hb)
          have n2_ := Aside0.mk (below_step (by repeat (first | (with_reducible first | exact HB.out | apply below_alloc | apply pw_below_drewN | apply below_drew1 | refine below_set ?_ GE159.out | refine below_set ?_ GE169.out) | exact HB.out)) hb)
          clear BK159
          clear BK169
          clear HB
          have BK159 := n0_
          have BK169 := n1_
          have HB := n2_
          clear n0_ n1_ n2_
          (try clear hb)
          (try clear hb2)
          (try clear hk)
          (try clear hi)
          refine hK.out _ _ ⟨(blk_cell BK159.out 0).trans rfl, (blk_cell BK159.out 1).trans rfl, (blk_cell BK159.out 2).trans rfl, (blk_cell BK159.out 3).trans rfl, (blk_cell BK159.out 4).trans rfl, (blk_cell BK159.out 5).trans rfl, (blk_cell BK159.out 6).trans rfl, (blk_cell BK159.out 7).trans rfl, (blk_cell BK159.out 8).trans rfl, (blk_cell BK159.out 9).trans rfl, (blk_cell BK169.out 0).trans rfl, (blk_cell BK169.out 1).trans rfl, (blk_cell BK169.out 2).trans rfl, (blk_cell BK169.out 3).trans rfl, (blk_cell BK169.out 4).trans rfl, (blk_cell BK169.out 5).trans rfl⟩ (fun hHeld => ?_)
          clear hK K
          refine norm_ (a' := ?_) ?_ ?_
          rotate_left
          · show Act.put _ (some 44) _ = _
            simp only [Act.put, List.setIfInBounds_toArray, List.set_cons_zero, List.set_cons_succ, i64_w, i32_w]
            rfl
          refine pure_ (i := 10) (N := some 11) (v := ?_) (a' := ?_) #[true, true, true, true, true, true, true, true, true, true, true, false] rfl rfl (any_of HT_.out (by kernel_rfl)) (fun _ _ _ h => h) (Or.inl ⟨by rfl, ?_⟩) ?_ ?_
          rotate_left
          · intro w'
            go_simp
            with_reducible rfl
          rotate_left
          · simp only [Act.put, List.setIfInBounds_toArray, List.set_cons_zero, List.set_cons_succ, i64_w, i32_w]
            rfl
          refine pure_ (i := 11) (N := some 12) (v := ?_) (a' := ?_) #[true, true, true, true, true, true, true, true, true, true, true, true] rfl rfl (any_of HT_.out (by kernel_rfl)) (fun _ _ _ h => h) (Or.inl ⟨by rfl, ?_⟩) ?_ ?_
          rotate_left
          · intro w'
            go_simp
            with_reducible rfl
          rotate_left
          · simp only [Act.put, List.setIfInBounds_toArray, List.set_cons_zero, List.set_cons_succ, i64_w, i32_w]
            rfl
          refine done_ (done_of HT_.out (by kernel_rfl)) ?_
          try go_wp2
          go_ret2
          exact ⟨by first | rfl | (simp [errW_none, errW_some] <;> rfl) | (simp [*, errW_none, errW_some] <;> rfl), by repeat (first | (with_reducible first | exact HB.out | apply below_alloc | apply pw_below_drewN | apply below_drew1 | refine below_set ?_ GE159.out | refine below_set ?_ GE169.out) | exact HB.out)⟩
      · replace c10 := Bool.eq_false_iff.mpr c10
        subst c10
        have H1 : (some (false, 0)) = some (r1, r2) := by rw [if_neg (show ¬ (false = true) by decide)] at H; exact H
        clear H
        have H := H1
        clear H1
        simp only [Option.some.injEq, Prod.mk.injEq] at H
        obtain ⟨rfl, rfl⟩ := H
        go_enter Tryz.func16, Tryz.ntmps16
        try go_wp2_with (first | ((with_reducible refine gate_dst (N := 2) rfl ?_); refine box_event ?hg (N := 2) ?hd (cs := #[.int .u64 a0_0, .bool a0_1, .int .u64 a0_2, .bool a0_3, .int .u64 a0_4, .bool a0_5, .int .u64 a0_6, .bool a0_7, .int .u64 a0_8, .bool a0_9]) (t := 26) ?hr ?_; (case hd => rfl); (case hg => rfl); (case hr => first | (go_simp; done) | (go_simp; rfl)); intro gb159 hg w36 hbox hb; have n0_ := Aside0.mk (below_step (by repeat (first | (with_reducible first | exact HB.out | apply below_alloc | apply pw_below_drewN | apply below_drew1) | exact HB.out)) hb); have n1_ := Aside0.mk (hbox); have n2_ := Aside0.mk ((by rw [hg]; exact (below_size (by repeat (first | (with_reducible first | exact HB.out | apply below_alloc | apply pw_below_drewN | apply below_drew1) | exact HB.out))) : w.heap.size ≤ gb159)); have n3_ := Aside0.mk ((by rw [hg]; exact (below_size (by repeat (first | (with_reducible first | exact HB.out | apply below_alloc | apply pw_below_drewN | apply below_drew1) | exact HB.out))) : w.heap.size ≤ gb159)); clear HB; have HB := n0_; have BK159 := n1_; have GW159 := n2_; have GE159 := n3_; clear n0_ n1_ n2_ n3_; clear hb hbox hg; have hcz37_0 : w36.cell? ⟨gb159, 0, none⟩ = some (.int .u64 a0_0) := (blk_cell BK159.out 0).trans rfl; have hcz37_1 : w36.cell? ⟨gb159, 1, none⟩ = some (.bool a0_1) := (blk_cell BK159.out 1).trans rfl; have hcz37_2 : w36.cell? ⟨gb159, 2, none⟩ = some (.int .u64 a0_2) := (blk_cell BK159.out 2).trans rfl; have hcz37_3 : w36.cell? ⟨gb159, 3, none⟩ = some (.bool a0_3) := (blk_cell BK159.out 3).trans rfl; have hcz37_4 : w36.cell? ⟨gb159, 4, none⟩ = some (.int .u64 a0_4) := (blk_cell BK159.out 4).trans rfl; have hcz37_5 : w36.cell? ⟨gb159, 5, none⟩ = some (.bool a0_5) := (blk_cell BK159.out 5).trans rfl; have hcz37_6 : w36.cell? ⟨gb159, 6, none⟩ = some (.int .u64 a0_6) := (blk_cell BK159.out 6).trans rfl; have hcz37_7 : w36.cell? ⟨gb159, 7, none⟩ = some (.bool a0_7) := (blk_cell BK159.out 7).trans rfl; have hcz37_8 : w36.cell? ⟨gb159, 8, none⟩ = some (.int .u64 a0_8) := (blk_cell BK159.out 8).trans rfl; have hcz37_9 : w36.cell? ⟨gb159, 9, none⟩ = some (.bool a0_9) := (blk_cell BK159.out 9).trans rfl; have hfz37_0 := blk_frozen BK159.out 0; have hfz37_1 := blk_frozen BK159.out 1; have hfz37_2 := blk_frozen BK159.out 2; have hfz37_3 := blk_frozen BK159.out 3; have hfz37_4 := blk_frozen BK159.out 4; have hfz37_5 := blk_frozen BK159.out 5; have hfz37_6 := blk_frozen BK159.out 6; have hfz37_7 := blk_frozen BK159.out 7; have hfz37_8 := blk_frozen BK159.out 8; have hfz37_9 := blk_frozen BK159.out 9) | ((with_reducible refine gate_callee (f := 41) rfl ?_); refine goesL_ (some 15) rfl rfl Tryz.func41 (by kernel_rfl) rfl #[.agg #[.int .u64 a0_0, .bool a0_1, .int .u64 a0_2, .bool a0_3, .int .u64 a0_4, .bool a0_5, .int .u64 a0_6, .bool a0_7, .int .u64 a0_8, .bool a0_9]] rfl (by (try simp only [List.map_toArray, List.map_cons, List.map_nil]); first | done | rfl | (simp only [List.length_drop, List.length_take]; rfl)) ?_; (with_reducible refine (complineref19_Check.calls k a0_0 a0_1 a0_2 a0_3 a0_4 a0_5 a0_6 a0_7 a0_8 a0_9 t160 t161 _ A3.out).mono ?_); rintro e w38 ⟨rfl, hb⟩; refine ⟨_, rfl, ?_⟩; have n0_ := Aside0.mk (blk_below (g := gb159) (o := .cells #[.int .u64 a0_0, .bool a0_1, .int .u64 a0_2, .bool a0_3, .int .u64 a0_4, .bool a0_5, .int .u64 a0_6, .bool a0_7, .int .u64 a0_8, .bool a0_9] 26 (0, 0)) (by (with_reducible repeat (first | refine blk_drewN ?_ _ | refine blk_drew ?_ | refine blk_alloc ?_ _)); exact BK159.out) hb); have n1_ := Aside0.mk (below_step (by repeat (first | (with_reducible first | exact HB.out | apply below_alloc | apply pw_below_drewN | apply below_drew1 | refine below_set ?_ GE159.out) | exact HB.out)) hb); clear BK159; clear HB; have BK159 := n0_; have HB := n1_; clear n0_ n1_; (try clear hb); (try clear hb2); (try clear hk); (try clear hi)) | ((with_reducible refine gate_callee (f := 42) rfl ?_); refine goesL_ (some 22) rfl rfl Tryz.func42 (by kernel_rfl) rfl #[.int .i64 a1] rfl (by (try simp only [List.map_toArray, List.map_cons, List.map_nil]); first | done | rfl | (simp only [List.length_drop, List.length_take]; rfl)) ?_; (with_reducible refine (complineref16_Of.calls k a1 t162 t163 t164 t165 t166 t167 t168 _ A5.out).mono ?_); rintro e w39 ⟨rfl, hb⟩; refine ⟨_, rfl, ?_⟩; have n0_ := Aside0.mk (blk_below (g := gb159) (o := .cells #[.int .u64 a0_0, .bool a0_1, .int .u64 a0_2, .bool a0_3, .int .u64 a0_4, .bool a0_5, .int .u64 a0_6, .bool a0_7, .int .u64 a0_8, .bool a0_9] 26 (0, 0)) (by (with_reducible repeat (first | refine blk_drewN ?_ _ | refine blk_drew ?_ | refine blk_alloc ?_ _)); exact BK159.out) hb); have n1_ := Aside0.mk (below_step (by repeat (first | (with_reducible first | exact HB.out | apply below_alloc | apply pw_below_drewN | apply below_drew1 | refine below_set ?_ GE159.out) | exact HB.out)) hb); clear BK159; clear HB; have BK159 := n0_; have HB := n1_; clear n0_ n1_; (try clear hb); (try clear hb2); (try clear hk); (try clear hi)) | ((with_reducible refine gate_dst (N := 8) rfl ?_); refine box_event ?hg (N := 8) ?hd (cs := #[.int .i64 0, .int .i64 0, .int .i64 0, .int .i64 0, .int .i64 0, .int .i64 0]) (t := 36) ?hr ?_; (case hd => rfl); (case hg => rfl); (case hr => first | (go_simp; done) | (go_simp; rfl)); intro gb169 hg w40 hbox hb; have n0_ := Aside0.mk (blk_below (g := gb159) (o := .cells #[.int .u64 a0_0, .bool a0_1, .int .u64 a0_2, .bool a0_3, .int .u64 a0_4, .bool a0_5, .int .u64 a0_6, .bool a0_7, .int .u64 a0_8, .bool a0_9] 26 (0, 0)) (by (with_reducible repeat (first | refine blk_drewN ?_ _ | refine blk_drew ?_ | refine blk_alloc ?_ _)); exact BK159.out) hb); have n1_ := Aside0.mk (below_step (by repeat (first | (with_reducible first | exact HB.out | apply below_alloc | apply pw_below_drewN | apply below_drew1 | refine below_set ?_ GE159.out) | exact HB.out)) hb); have n2_ := Aside0.mk (hbox); have n3_ := Aside0.mk ((by rw [hg]; exact (below_size (by repeat (first | (with_reducible first | exact HB.out | apply below_alloc | apply pw_below_drewN | apply below_drew1 | refine below_set ?_ GE159.out) | exact HB.out))) : w.heap.size ≤ gb169)); have n4_ := Aside0.mk ((by rw [hg]; exact (below_size (by repeat (first | (with_reducible first | exact HB.out | apply below_alloc | apply pw_below_drewN | apply below_drew1 | refine below_set ?_ GE159.out) | exact HB.out))) : w.heap.size ≤ gb169)); have n5_ := Aside0.mk ((by rw [hg]; exact Nat.ne_of_lt (blk_lt (g := gb159) (o := .cells #[.int .u64 a0_0, .bool a0_1, .int .u64 a0_2, .bool a0_3, .int .u64 a0_4, .bool a0_5, .int .u64 a0_6, .bool a0_7, .int .u64 a0_8, .bool a0_9] 26 (0, 0)) (by (with_reducible repeat (first | refine blk_drewN ?_ _ | refine blk_drew ?_ | refine blk_alloc ?_ _)); exact BK159.out)) : gb159 ≠ gb169)); have n6_ := Aside0.mk ((by rw [hg]; exact Nat.ne_of_gt (blk_lt (g := gb159) (o := .cells #[.int .u64 a0_0, .bool a0_1, .int .u64 a0_2, .bool a0_3, .int .u64 a0_4, .bool a0_5, .int .u64 a0_6, .bool a0_7, .int .u64 a0_8, .bool a0_9] 26 (0, 0)) (by (with_reducible repeat (first | refine blk_drewN ?_ _ | refine blk_drew ?_ | refine blk_alloc ?_ _)); exact BK159.out)) : gb169 ≠ gb159)); clear BK159; clear HB; have BK159 := n0_; have HB := n1_; have BK169 := n2_; have GW169 := n3_; have GE169 := n4_; have NB159_169 := n5_; have NB169_159 := n6_; clear n0_ n1_ n2_ n3_ n4_ n5_ n6_; clear hb hbox hg; have hnb41 := NB169_159.out; have hnc41 := NB159_169.out; have hcz42_0 : w40.cell? ⟨gb169, 0, none⟩ = some (.int .i64 0) := (blk_cell BK169.out 0).trans rfl; have hcz42_1 : w40.cell? ⟨gb169, 1, none⟩ = some (.int .i64 0) := (blk_cell BK169.out 1).trans rfl; have hcz42_2 : w40.cell? ⟨gb169, 2, none⟩ = some (.int .i64 0) := (blk_cell BK169.out 2).trans rfl; have hcz42_3 : w40.cell? ⟨gb169, 3, none⟩ = some (.int .i64 0) := (blk_cell BK169.out 3).trans rfl; have hcz42_4 : w40.cell? ⟨gb169, 4, none⟩ = some (.int .i64 0) := (blk_cell BK169.out 4).trans rfl; have hcz42_5 : w40.cell? ⟨gb169, 5, none⟩ = some (.int .i64 0) := (blk_cell BK169.out 5).trans rfl; have hfz42_0 := blk_frozen BK169.out 0; have hfz42_1 := blk_frozen BK169.out 1; have hfz42_2 := blk_frozen BK169.out 2; have hfz42_3 := blk_frozen BK169.out 3; have hfz42_4 := blk_frozen BK169.out 4; have hfz42_5 := blk_frozen BK169.out 5; have hcz43_0 : w40.cell? ⟨gb159, 0, none⟩ = some (.int .u64 a0_0) := (blk_cell BK159.out 0).trans rfl; have hcz43_1 : w40.cell? ⟨gb159, 1, none⟩ = some (.bool a0_1) := (blk_cell BK159.out 1).trans rfl; have hcz43_2 : w40.cell? ⟨gb159, 2, none⟩ = some (.int .u64 a0_2) := (blk_cell BK159.out 2).trans rfl; have hcz43_3 : w40.cell? ⟨gb159, 3, none⟩ = some (.bool a0_3) := (blk_cell BK159.out 3).trans rfl; have hcz43_4 : w40.cell? ⟨gb159, 4, none⟩ = some (.int .u64 a0_4) := (blk_cell BK159.out 4).trans rfl; have hcz43_5 : w40.cell? ⟨gb159, 5, none⟩ = some (.bool a0_5) := (blk_cell BK159.out 5).trans rfl; have hcz43_6 : w40.cell? ⟨gb159, 6, none⟩ = some (.int .u64 a0_6) := (blk_cell BK159.out 6).trans rfl; have hcz43_7 : w40.cell? ⟨gb159, 7, none⟩ = some (.bool a0_7) := (blk_cell BK159.out 7).trans rfl; have hcz43_8 : w40.cell? ⟨gb159, 8, none⟩ = some (.int .u64 a0_8) := (blk_cell BK159.out 8).trans rfl; have hcz43_9 : w40.cell? ⟨gb159, 9, none⟩ = some (.bool a0_9) := (blk_cell BK159.out 9).trans rfl; have hfz43_0 := blk_frozen BK159.out 0; have hfz43_1 := blk_frozen BK159.out 1; have hfz43_2 := blk_frozen BK159.out 2; have hfz43_3 := blk_frozen BK159.out 3; have hfz43_4 := blk_frozen BK159.out 4; have hfz43_5 := blk_frozen BK159.out 5; have hfz43_6 := blk_frozen BK159.out 6; have hfz43_7 := blk_frozen BK159.out 7; have hfz43_8 := blk_frozen BK159.out 8; have hfz43_9 := blk_frozen BK159.out 9) | ((with_reducible refine gate_callee (f := 43) rfl ?_); refine goesL_ (some 34) rfl rfl Tryz.func43 (by kernel_rfl) rfl #[.agg #[.int .u64 a0_0, .bool a0_1, .int .u64 a0_2, .bool a0_3, .int .u64 a0_4, .bool a0_5, .int .u64 a0_6, .bool a0_7, .int .u64 a0_8, .bool a0_9], .int .i64 t163, .int .i64 t164, .int .i64 t167] rfl (by (try simp only [List.map_toArray, List.map_cons, List.map_nil]); first | done | rfl | (simp only [List.length_drop, List.length_take]; rfl)) ?_; (with_reducible refine (complineref21_On.calls k a0_0 a0_1 a0_2 a0_3 a0_4 a0_5 a0_6 a0_7 a0_8 a0_9 t163 t164 t167 false _ A7.out).mono ?_); rintro e w44 ⟨rfl, hb⟩; refine ⟨_, rfl, ?_⟩; have n0_ := Aside0.mk (blk_below (g := gb159) (o := .cells #[.int .u64 a0_0, .bool a0_1, .int .u64 a0_2, .bool a0_3, .int .u64 a0_4, .bool a0_5, .int .u64 a0_6, .bool a0_7, .int .u64 a0_8, .bool a0_9] 26 (0, 0)) (by (with_reducible repeat (first | refine blk_drewN ?_ _ | refine blk_drew ?_ | refine blk_alloc ?_ _)); refine blk_far ?_ NB159_169.out _; (with_reducible repeat (first | refine blk_drewN ?_ _ | refine blk_drew ?_ | refine blk_alloc ?_ _)); refine blk_far ?_ NB159_169.out _; (with_reducible repeat (first | refine blk_drewN ?_ _ | refine blk_drew ?_ | refine blk_alloc ?_ _)); refine blk_far ?_ NB159_169.out _; (with_reducible repeat (first | refine blk_drewN ?_ _ | refine blk_drew ?_ | refine blk_alloc ?_ _)); refine blk_far ?_ NB159_169.out _; (with_reducible repeat (first | refine blk_drewN ?_ _ | refine blk_drew ?_ | refine blk_alloc ?_ _)); refine blk_far ?_ NB159_169.out _; (with_reducible repeat (first | refine blk_drewN ?_ _ | refine blk_drew ?_ | refine blk_alloc ?_ _)); refine blk_far ?_ NB159_169.out _; (with_reducible repeat (first | refine blk_drewN ?_ _ | refine blk_drew ?_ | refine blk_alloc ?_ _)); exact BK159.out) hb); have n1_ := Aside0.mk (blk_below (g := gb169) (o := .cells #[.int .i64 t162, .int .i64 t163, .int .i64 t164, .int .i64 t165, .int .i64 t166, .int .i64 t167] 36 (0, 0)) (by (with_reducible repeat (first | refine blk_drewN ?_ _ | refine blk_drew ?_ | refine blk_alloc ?_ _)); refine blk_put (cs := #[.int .i64 t162, .int .i64 t163, .int .i64 t164, .int .i64 t165, .int .i64 t166, .int .i64 0]) ?_ 5 _ rfl; (with_reducible repeat (first | refine blk_drewN ?_ _ | refine blk_drew ?_ | refine blk_alloc ?_ _)); refine blk_put (cs := #[.int .i64 t162, .int .i64 t163, .int .i64 t164, .int .i64 t165, .int .i64 0, .int .i64 0]) ?_ 4 _ rfl; (with_reducible repeat (first | refine blk_drewN ?_ _ | refine blk_drew ?_ | refine blk_alloc ?_ _)); refine blk_put (cs := #[.int .i64 t162, .int .i64 t163, .int .i64 t164, .int .i64 0, .int .i64 0, .int .i64 0]) ?_ 3 _ rfl; (with_reducible repeat (first | refine blk_drewN ?_ _ | refine blk_drew ?_ | refine blk_alloc ?_ _)); refine blk_put (cs := #[.int .i64 t162, .int .i64 t163, .int .i64 0, .int .i64 0, .int .i64 0, .int .i64 0]) ?_ 2 _ rfl; (with_reducible repeat (first | refine blk_drewN ?_ _ | refine blk_drew ?_ | refine blk_alloc ?_ _)); refine blk_put (cs := #[.int .i64 t162, .int .i64 0, .int .i64 0, .int .i64 0, .int .i64 0, .int .i64 0]) ?_ 1 _ rfl; (with_reducible repeat (first | refine blk_drewN ?_ _ | refine blk_drew ?_ | refine blk_alloc ?_ _)); refine blk_put (cs := #[.int .i64 0, .int .i64 0, .int .i64 0, .int .i64 0, .int .i64 0, .int .i64 0]) ?_ 0 _ rfl; (with_reducible repeat (first | refine blk_drewN ?_ _ | refine blk_drew ?_ | refine blk_alloc ?_ _)); exact BK169.out) hb); have n2_ := Aside0.mk (below_step (by repeat (first | (with_reducible first | exact HB.out | apply below_alloc | apply pw_below_drewN | apply below_drew1 | refine below_set ?_ GE159.out | refine below_set ?_ GE169.out) | exact HB.out)) hb); clear BK159; clear BK169; clear HB; have BK159 := n0_; have BK169 := n1_; have HB := n2_; clear n0_ n1_ n2_; (try clear hb); (try clear hb2); (try clear hk); (try clear hi)))
        have n0_ := Aside0.mk (blk_drew BK159.out)
        have n1_ := Aside0.mk (blk_drew BK169.out)
        have n2_ := Aside0.mk (below_drew1 HB.out)
        clear BK159
        clear BK169
        clear HB
        have BK159 := n0_
        have BK169 := n1_
        have HB := n2_
        clear n0_ n1_ n2_
        refine start_ (n := 12) (S := fun w' => w'.cell? ⟨gb159, 0, none⟩ = some (.int .u64 a0_0) ∧ w'.cell? ⟨gb159, 1, none⟩ = some (.bool a0_1) ∧ w'.cell? ⟨gb159, 2, none⟩ = some (.int .u64 a0_2) ∧ w'.cell? ⟨gb159, 3, none⟩ = some (.bool a0_3) ∧ w'.cell? ⟨gb159, 4, none⟩ = some (.int .u64 a0_4) ∧ w'.cell? ⟨gb159, 5, none⟩ = some (.bool a0_5) ∧ w'.cell? ⟨gb159, 6, none⟩ = some (.int .u64 a0_6) ∧ w'.cell? ⟨gb159, 7, none⟩ = some (.bool a0_7) ∧ w'.cell? ⟨gb159, 8, none⟩ = some (.int .u64 a0_8) ∧ w'.cell? ⟨gb159, 9, none⟩ = some (.bool a0_9) ∧ w'.cell? ⟨gb169, 0, none⟩ = some (.int .i64 t162) ∧ w'.cell? ⟨gb169, 1, none⟩ = some (.int .i64 t163) ∧ w'.cell? ⟨gb169, 2, none⟩ = some (.int .i64 t164) ∧ w'.cell? ⟨gb169, 3, none⟩ = some (.int .i64 t165) ∧ w'.cell? ⟨gb169, 4, none⟩ = some (.int .i64 t166) ∧ w'.cell? ⟨gb169, 5, none⟩ = some (.int .i64 t167)) (ds := []) #[false, false, false, false, false, false, false, false, false, false, false, false] (by kernel_rfl) rfl rfl ⟨(blk_cell BK159.out 0).trans rfl, (blk_cell BK159.out 1).trans rfl, (blk_cell BK159.out 2).trans rfl, (blk_cell BK159.out 3).trans rfl, (blk_cell BK159.out 4).trans rfl, (blk_cell BK159.out 5).trans rfl, (blk_cell BK159.out 6).trans rfl, (blk_cell BK159.out 7).trans rfl, (blk_cell BK159.out 8).trans rfl, (blk_cell BK159.out 9).trans rfl, (blk_cell BK169.out 0).trans rfl, (blk_cell BK169.out 1).trans rfl, (blk_cell BK169.out 2).trans rfl, (blk_cell BK169.out 3).trans rfl, (blk_cell BK169.out 4).trans rfl, (blk_cell BK169.out 5).trans rfl⟩ (fun hHeld => ?_); refine with_tabW complineref21_Match.tab8 complineref21_Match.bits8 (fun HT_ HW_ => ?_)
        generalize w44.drew = w45 at BK159 BK169 HB hHeld ⊢
        refine pure_ (i := 0) (N := some 35) (v := ?_) (a' := ?_) #[true, false, false, false, false, false, false, false, false, false, false, false] rfl rfl (any_of HT_.out (by kernel_rfl)) (fun _ _ _ h => h) (Or.inl ⟨by rfl, ?_⟩) ?_ ?_
        rotate_left
        · intro w'
          go_simp
          with_reducible rfl
        rotate_left
        · simp only [Act.put, List.setIfInBounds_toArray, List.set_cons_zero, List.set_cons_succ, i64_w, i32_w]
          rfl
        refine pure_ (i := 2) (N := some 37) (v := ?_) (a' := ?_) #[true, false, true, false, false, false, false, false, false, false, false, false] rfl rfl (any_of HT_.out (by kernel_rfl)) (fun _ _ _ h => h) (Or.inl ⟨by rfl, ?_⟩) ?_ ?_
        rotate_left
        · intro w'
          go_simp
          with_reducible rfl
        rotate_left
        · simp only [Act.put, List.setIfInBounds_toArray, List.set_cons_zero, List.set_cons_succ, i64_w, i32_w]
          rfl
        refine pure_ (i := 5) (N := some 40) (v := ?_) (a' := ?_) #[true, false, true, false, false, true, false, false, false, false, false, false] rfl rfl (any_of HT_.out (by kernel_rfl)) (fun _ _ _ h => h) (Or.inl ⟨by rfl, ?_⟩) ?_ ?_
        rotate_left
        · intro w'
          go_simp
          with_reducible rfl
        rotate_left
        · simp only [Act.put, List.setIfInBounds_toArray, List.set_cons_zero, List.set_cons_succ, i64_w, i32_w]
          rfl
        refine pure_ (i := 7) (N := some 42) (v := ?_) (a' := ?_) #[true, false, true, false, false, true, false, true, false, false, false, false] rfl rfl (any_of HT_.out (by kernel_rfl)) (fun _ _ _ h => h) (Or.inl ⟨by rfl, ?_⟩) ?_ ?_
        rotate_left
        · intro w'
          go_simp
          with_reducible rfl
        rotate_left
        · simp only [Act.put, List.setIfInBounds_toArray, List.set_cons_zero, List.set_cons_succ, i64_w, i32_w]
          rfl
        refine take_ (i := 1) (N := some 36) (v := ?_) (a' := ?_) #[true, true, true, false, false, true, false, true, false, false, false, false] rfl rfl (take_ofW HT_.out HW_.out (by kernel_rfl)) (fun _ _ _ h => h) (Or.inl ⟨by rfl, ?_⟩) hHeld ?_ ?_
        rotate_left
        · rintro w' ⟨s0, s1, s2, s3, s4, s5, s6, s7, s8, s9, s10, s11, s12, s13, s14, s15⟩
          go_simp
          with_reducible rfl
        rotate_left
        · simp only [Act.put, List.setIfInBounds_toArray, List.set_cons_zero, List.set_cons_succ, i64_w, i32_w]
          rfl
        refine take_ (i := 3) (N := some 38) (v := ?_) (a' := ?_) #[true, true, true, true, false, true, false, true, false, false, false, false] rfl rfl (take_ofW HT_.out HW_.out (by kernel_rfl)) (fun _ _ _ h => h) (Or.inl ⟨by rfl, ?_⟩) hHeld ?_ ?_
        rotate_left
        · rintro w' ⟨s0, s1, s2, s3, s4, s5, s6, s7, s8, s9, s10, s11, s12, s13, s14, s15⟩
          go_simp
          with_reducible rfl
        rotate_left
        · simp only [Act.put, List.setIfInBounds_toArray, List.set_cons_zero, List.set_cons_succ, i64_w, i32_w]
          rfl
        refine take_ (i := 6) (N := some 41) (v := ?_) (a' := ?_) #[true, true, true, true, false, true, true, true, false, false, false, false] rfl rfl (take_ofW HT_.out HW_.out (by kernel_rfl)) (fun _ _ _ h => h) (Or.inl ⟨by rfl, ?_⟩) hHeld ?_ ?_
        rotate_left
        · rintro w' ⟨s0, s1, s2, s3, s4, s5, s6, s7, s8, s9, s10, s11, s12, s13, s14, s15⟩
          go_simp
          with_reducible rfl
        rotate_left
        · simp only [Act.put, List.setIfInBounds_toArray, List.set_cons_zero, List.set_cons_succ, i64_w, i32_w]
          rfl
        refine take_ (i := 8) (N := some 43) (v := ?_) (a' := ?_) #[true, true, true, true, false, true, true, true, true, false, false, false] rfl rfl (take_ofW HT_.out HW_.out (by kernel_rfl)) (fun _ _ _ h => h) (Or.inl ⟨by rfl, ?_⟩) hHeld ?_ ?_
        rotate_left
        · rintro w' ⟨s0, s1, s2, s3, s4, s5, s6, s7, s8, s9, s10, s11, s12, s13, s14, s15⟩
          go_simp
          with_reducible rfl
        rotate_left
        · simp only [Act.put, List.setIfInBounds_toArray, List.set_cons_zero, List.set_cons_succ, i64_w, i32_w]
          rfl
        refine one_ (i := 4) (N := some 39) #[true, true, true, true, true, true, true, true, true, false, false, false] rfl rfl (one_of HT_.out (by kernel_rfl)) (by decide) (fun K hK => ?_)
        refine goes_ Tryz.func44 (by kernel_rfl) rfl #[.agg #[.int .u64 a0_2, .bool a0_3], .int .i64 t165] (by rfl) rfl rfl (by (try simp only [List.map_toArray, List.map_cons, List.map_nil]); first | done | rfl | (simp only [List.length_drop, List.length_take]; rfl)) ?_
        with_reducible refine (complineref18_Has.calls k a0_2 a0_3 t165 t171 _ A8.out).mono ?_
        rintro e w46 ⟨rfl, hb⟩
        refine ⟨_, rfl, ?_⟩
        have n0_ := Aside0.mk (blk_below (g := gb159) (o := .cells #[.int .u64 a0_0, .bool a0_1, .int .u64 a0_2, .bool a0_3, .int .u64 a0_4, .bool a0_5, .int .u64 a0_6, .bool a0_7, .int .u64 a0_8, .bool a0_9] 26 (0, 0)) (by (with_reducible repeat (first | refine blk_drewN ?_ _ | refine blk_drew ?_ | refine blk_alloc ?_ _)); exact BK159.out) hb)
        have n1_ := Aside0.mk (blk_below (g := gb169) (o := .cells #[.int .i64 t162, .int .i64 t163, .int .i64 t164, .int .i64 t165, .int .i64 t166, .int .i64 t167] 36 (0, 0)) (by (with_reducible repeat (first | refine blk_drewN ?_ _ | refine blk_drew ?_ | refine blk_alloc ?_ _)); exact BK169.out) hb)
        have n2_ := Aside0.mk (below_step (by repeat (first | (with_reducible first | exact HB.out | apply below_alloc | apply pw_below_drewN | apply below_drew1 | refine below_set ?_ GE159.out | refine below_set ?_ GE169.out) | exact HB.out)) hb)
        clear BK159
        clear BK169
        clear HB
        have BK159 := n0_
        have BK169 := n1_
        have HB := n2_
        clear n0_ n1_ n2_
        (try clear hb)
        (try clear hb2)
        (try clear hk)
        (try clear hi)
        refine hK.out _ _ ⟨(blk_cell BK159.out 0).trans rfl, (blk_cell BK159.out 1).trans rfl, (blk_cell BK159.out 2).trans rfl, (blk_cell BK159.out 3).trans rfl, (blk_cell BK159.out 4).trans rfl, (blk_cell BK159.out 5).trans rfl, (blk_cell BK159.out 6).trans rfl, (blk_cell BK159.out 7).trans rfl, (blk_cell BK159.out 8).trans rfl, (blk_cell BK159.out 9).trans rfl, (blk_cell BK169.out 0).trans rfl, (blk_cell BK169.out 1).trans rfl, (blk_cell BK169.out 2).trans rfl, (blk_cell BK169.out 3).trans rfl, (blk_cell BK169.out 4).trans rfl, (blk_cell BK169.out 5).trans rfl⟩ (fun hHeld => ?_)
        clear hK K
        refine norm_ (a' := ?_) ?_ ?_
        rotate_left
        · show Act.put _ (some 39) _ = _
          simp only [Act.put, List.setIfInBounds_toArray, List.set_cons_zero, List.set_cons_succ, i64_w, i32_w]
          rfl
        refine one_ (i := 9) (N := some 44) #[true, true, true, true, true, true, true, true, true, true, false, false] rfl rfl (one_of HT_.out (by kernel_rfl)) (by decide) (fun K hK => ?_)
        refine goes_ Tryz.func44 (by kernel_rfl) rfl #[.agg #[.int .u64 a0_0, .bool a0_1], .int .i64 t166] (by rfl) rfl rfl (by (try simp only [List.map_toArray, List.map_cons, List.map_nil]); first | done | rfl | (simp only [List.length_drop, List.length_take]; rfl)) ?_
        with_reducible refine (complineref18_Has.calls k a0_0 a0_1 t166 t172 _ A9.out).mono ?_
        rintro e w47 ⟨rfl, hb⟩
        refine ⟨_, rfl, ?_⟩
        have n0_ := Aside0.mk (blk_below (g := gb159) (o := .cells #[.int .u64 a0_0, .bool a0_1, .int .u64 a0_2, .bool a0_3, .int .u64 a0_4, .bool a0_5, .int .u64 a0_6, .bool a0_7, .int .u64 a0_8, .bool a0_9] 26 (0, 0)) (by (with_reducible repeat (first | refine blk_drewN ?_ _ | refine blk_drew ?_ | refine blk_alloc ?_ _)); exact BK159.out) hb)
        have n1_ := Aside0.mk (blk_below (g := gb169) (o := .cells #[.int .i64 t162, .int .i64 t163, .int .i64 t164, .int .i64 t165, .int .i64 t166, .int .i64 t167] 36 (0, 0)) (by (with_reducible repeat (first | refine blk_drewN ?_ _ | refine blk_drew ?_ | refine blk_alloc ?_ _)); exact BK169.out) hb)
        have n2_ := Aside0.mk (below_step (by repeat (first | (with_reducible first | exact HB.out | apply below_alloc | apply pw_below_drewN | apply below_drew1 | refine below_set ?_ GE159.out | refine below_set ?_ GE169.out) | exact HB.out)) hb)
        clear BK159
        clear BK169
        clear HB
        have BK159 := n0_
        have BK169 := n1_
        have HB := n2_
        clear n0_ n1_ n2_
        (try clear hb)
        (try clear hb2)
        (try clear hk)
        (try clear hi)
        refine hK.out _ _ ⟨(blk_cell BK159.out 0).trans rfl, (blk_cell BK159.out 1).trans rfl, (blk_cell BK159.out 2).trans rfl, (blk_cell BK159.out 3).trans rfl, (blk_cell BK159.out 4).trans rfl, (blk_cell BK159.out 5).trans rfl, (blk_cell BK159.out 6).trans rfl, (blk_cell BK159.out 7).trans rfl, (blk_cell BK159.out 8).trans rfl, (blk_cell BK159.out 9).trans rfl, (blk_cell BK169.out 0).trans rfl, (blk_cell BK169.out 1).trans rfl, (blk_cell BK169.out 2).trans rfl, (blk_cell BK169.out 3).trans rfl, (blk_cell BK169.out 4).trans rfl, (blk_cell BK169.out 5).trans rfl⟩ (fun hHeld => ?_)
        clear hK K
        refine norm_ (a' := ?_) ?_ ?_
        rotate_left
        · show Act.put _ (some 44) _ = _
          simp only [Act.put, List.setIfInBounds_toArray, List.set_cons_zero, List.set_cons_succ, i64_w, i32_w]
          rfl
        refine pure_ (i := 10) (N := some 11) (v := ?_) (a' := ?_) #[true, true, true, true, true, true, true, true, true, true, true, false] rfl rfl (any_of HT_.out (by kernel_rfl)) (fun _ _ _ h => h) (Or.inl ⟨by rfl, ?_⟩) ?_ ?_
        rotate_left
        · intro w'
          go_simp
          with_reducible rfl
        rotate_left
        · simp only [Act.put, List.setIfInBounds_toArray, List.set_cons_zero, List.set_cons_succ, i64_w, i32_w]
          rfl
        refine pure_ (i := 11) (N := some 12) (v := ?_) (a' := ?_) #[true, true, true, true, true, true, true, true, true, true, true, true] rfl rfl (any_of HT_.out (by kernel_rfl)) (fun _ _ _ h => h) (Or.inl ⟨by rfl, ?_⟩) ?_ ?_
        rotate_left
        · intro w'
          go_simp
          with_reducible rfl
        rotate_left
        · simp only [Act.put, List.setIfInBounds_toArray, List.set_cons_zero, List.set_cons_succ, i64_w, i32_w]
          rfl
        refine done_ (done_of HT_.out (by kernel_rfl)) ?_
        try go_wp2
        go_ret2
        exact ⟨by first | rfl | (simp [errW_none, errW_some] <;> rfl) | (simp [*, errW_none, errW_some] <;> rfl), by repeat (first | (with_reducible first | exact HB.out | apply below_alloc | apply pw_below_drewN | apply below_drew1 | refine below_set ?_ GE159.out | refine below_set ?_ GE169.out) | exact HB.out)⟩
    · rw [if_neg c6] at H
      have c6b0 : (t168 == 0) = false := beq_eq_false_iff_ne.mpr c6
      have c6b1 : (t168 != 0) = true := bne_iff_ne.mpr c6
      simp only [Option.some.injEq, Prod.mk.injEq] at H
      obtain ⟨rfl, rfl⟩ := H
      go_enter Tryz.func16, Tryz.ntmps16
      go_wp2_with (first | ((with_reducible refine gate_dst (N := 2) rfl ?_); refine box_event ?hg (N := 2) ?hd (cs := #[.int .u64 a0_0, .bool a0_1, .int .u64 a0_2, .bool a0_3, .int .u64 a0_4, .bool a0_5, .int .u64 a0_6, .bool a0_7, .int .u64 a0_8, .bool a0_9]) (t := 26) ?hr ?_; (case hd => rfl); (case hg => rfl); (case hr => first | (go_simp; done) | (go_simp; rfl)); intro gb159 hg w48 hbox hb; have n0_ := Aside0.mk (below_step (by repeat (first | (with_reducible first | exact HB.out | apply below_alloc | apply pw_below_drewN | apply below_drew1) | exact HB.out)) hb); have n1_ := Aside0.mk (hbox); have n2_ := Aside0.mk ((by rw [hg]; exact (below_size (by repeat (first | (with_reducible first | exact HB.out | apply below_alloc | apply pw_below_drewN | apply below_drew1) | exact HB.out))) : w.heap.size ≤ gb159)); have n3_ := Aside0.mk ((by rw [hg]; exact (below_size (by repeat (first | (with_reducible first | exact HB.out | apply below_alloc | apply pw_below_drewN | apply below_drew1) | exact HB.out))) : w.heap.size ≤ gb159)); clear HB; have HB := n0_; have BK159 := n1_; have GW159 := n2_; have GE159 := n3_; clear n0_ n1_ n2_ n3_; clear hb hbox hg; have hcz49_0 : w48.cell? ⟨gb159, 0, none⟩ = some (.int .u64 a0_0) := (blk_cell BK159.out 0).trans rfl; have hcz49_1 : w48.cell? ⟨gb159, 1, none⟩ = some (.bool a0_1) := (blk_cell BK159.out 1).trans rfl; have hcz49_2 : w48.cell? ⟨gb159, 2, none⟩ = some (.int .u64 a0_2) := (blk_cell BK159.out 2).trans rfl; have hcz49_3 : w48.cell? ⟨gb159, 3, none⟩ = some (.bool a0_3) := (blk_cell BK159.out 3).trans rfl; have hcz49_4 : w48.cell? ⟨gb159, 4, none⟩ = some (.int .u64 a0_4) := (blk_cell BK159.out 4).trans rfl; have hcz49_5 : w48.cell? ⟨gb159, 5, none⟩ = some (.bool a0_5) := (blk_cell BK159.out 5).trans rfl; have hcz49_6 : w48.cell? ⟨gb159, 6, none⟩ = some (.int .u64 a0_6) := (blk_cell BK159.out 6).trans rfl; have hcz49_7 : w48.cell? ⟨gb159, 7, none⟩ = some (.bool a0_7) := (blk_cell BK159.out 7).trans rfl; have hcz49_8 : w48.cell? ⟨gb159, 8, none⟩ = some (.int .u64 a0_8) := (blk_cell BK159.out 8).trans rfl; have hcz49_9 : w48.cell? ⟨gb159, 9, none⟩ = some (.bool a0_9) := (blk_cell BK159.out 9).trans rfl; have hfz49_0 := blk_frozen BK159.out 0; have hfz49_1 := blk_frozen BK159.out 1; have hfz49_2 := blk_frozen BK159.out 2; have hfz49_3 := blk_frozen BK159.out 3; have hfz49_4 := blk_frozen BK159.out 4; have hfz49_5 := blk_frozen BK159.out 5; have hfz49_6 := blk_frozen BK159.out 6; have hfz49_7 := blk_frozen BK159.out 7; have hfz49_8 := blk_frozen BK159.out 8; have hfz49_9 := blk_frozen BK159.out 9) | ((with_reducible refine gate_callee (f := 41) rfl ?_); refine goesL_ (some 15) rfl rfl Tryz.func41 (by kernel_rfl) rfl #[.agg #[.int .u64 a0_0, .bool a0_1, .int .u64 a0_2, .bool a0_3, .int .u64 a0_4, .bool a0_5, .int .u64 a0_6, .bool a0_7, .int .u64 a0_8, .bool a0_9]] rfl (by (try simp only [List.map_toArray, List.map_cons, List.map_nil]); first | done | rfl | (simp only [List.length_drop, List.length_take]; rfl)) ?_; (with_reducible refine (complineref19_Check.calls k a0_0 a0_1 a0_2 a0_3 a0_4 a0_5 a0_6 a0_7 a0_8 a0_9 t160 t161 _ A3.out).mono ?_); rintro e w50 ⟨rfl, hb⟩; refine ⟨_, rfl, ?_⟩; have n0_ := Aside0.mk (blk_below (g := gb159) (o := .cells #[.int .u64 a0_0, .bool a0_1, .int .u64 a0_2, .bool a0_3, .int .u64 a0_4, .bool a0_5, .int .u64 a0_6, .bool a0_7, .int .u64 a0_8, .bool a0_9] 26 (0, 0)) (by (with_reducible repeat (first | refine blk_drewN ?_ _ | refine blk_drew ?_ | refine blk_alloc ?_ _)); exact BK159.out) hb); have n1_ := Aside0.mk (below_step (by repeat (first | (with_reducible first | exact HB.out | apply below_alloc | apply pw_below_drewN | apply below_drew1 | refine below_set ?_ GE159.out) | exact HB.out)) hb); clear BK159; clear HB; have BK159 := n0_; have HB := n1_; clear n0_ n1_; (try clear hb); (try clear hb2); (try clear hk); (try clear hi)) | ((with_reducible refine gate_callee (f := 42) rfl ?_); refine goesL_ (some 22) rfl rfl Tryz.func42 (by kernel_rfl) rfl #[.int .i64 a1] rfl (by (try simp only [List.map_toArray, List.map_cons, List.map_nil]); first | done | rfl | (simp only [List.length_drop, List.length_take]; rfl)) ?_; (with_reducible refine (complineref16_Of.calls k a1 t162 t163 t164 t165 t166 t167 t168 _ A5.out).mono ?_); rintro e w51 ⟨rfl, hb⟩; refine ⟨_, rfl, ?_⟩; have n0_ := Aside0.mk (blk_below (g := gb159) (o := .cells #[.int .u64 a0_0, .bool a0_1, .int .u64 a0_2, .bool a0_3, .int .u64 a0_4, .bool a0_5, .int .u64 a0_6, .bool a0_7, .int .u64 a0_8, .bool a0_9] 26 (0, 0)) (by (with_reducible repeat (first | refine blk_drewN ?_ _ | refine blk_drew ?_ | refine blk_alloc ?_ _)); exact BK159.out) hb); have n1_ := Aside0.mk (below_step (by repeat (first | (with_reducible first | exact HB.out | apply below_alloc | apply pw_below_drewN | apply below_drew1 | refine below_set ?_ GE159.out) | exact HB.out)) hb); clear BK159; clear HB; have BK159 := n0_; have HB := n1_; clear n0_ n1_; (try clear hb); (try clear hb2); (try clear hk); (try clear hi)) | ((with_reducible refine gate_dst (N := 8) rfl ?_); refine box_event ?hg (N := 8) ?hd (cs := #[.int .i64 0, .int .i64 0, .int .i64 0, .int .i64 0, .int .i64 0, .int .i64 0]) (t := 36) ?hr ?_; (case hd => rfl); (case hg => rfl); (case hr => first | (go_simp; done) | (go_simp; rfl)); intro gb169 hg w52 hbox hb; have n0_ := Aside0.mk (blk_below (g := gb159) (o := .cells #[.int .u64 a0_0, .bool a0_1, .int .u64 a0_2, .bool a0_3, .int .u64 a0_4, .bool a0_5, .int .u64 a0_6, .bool a0_7, .int .u64 a0_8, .bool a0_9] 26 (0, 0)) (by (with_reducible repeat (first | refine blk_drewN ?_ _ | refine blk_drew ?_ | refine blk_alloc ?_ _)); exact BK159.out) hb); have n1_ := Aside0.mk (below_step (by repeat (first | (with_reducible first | exact HB.out | apply below_alloc | apply pw_below_drewN | apply below_drew1 | refine below_set ?_ GE159.out) | exact HB.out)) hb); have n2_ := Aside0.mk (hbox); have n3_ := Aside0.mk ((by rw [hg]; exact (below_size (by repeat (first | (with_reducible first | exact HB.out | apply below_alloc | apply pw_below_drewN | apply below_drew1 | refine below_set ?_ GE159.out) | exact HB.out))) : w.heap.size ≤ gb169)); have n4_ := Aside0.mk ((by rw [hg]; exact (below_size (by repeat (first | (with_reducible first | exact HB.out | apply below_alloc | apply pw_below_drewN | apply below_drew1 | refine below_set ?_ GE159.out) | exact HB.out))) : w.heap.size ≤ gb169)); have n5_ := Aside0.mk ((by rw [hg]; exact Nat.ne_of_lt (blk_lt (g := gb159) (o := .cells #[.int .u64 a0_0, .bool a0_1, .int .u64 a0_2, .bool a0_3, .int .u64 a0_4, .bool a0_5, .int .u64 a0_6, .bool a0_7, .int .u64 a0_8, .bool a0_9] 26 (0, 0)) (by (with_reducible repeat (first | refine blk_drewN ?_ _ | refine blk_drew ?_ | refine blk_alloc ?_ _)); exact BK159.out)) : gb159 ≠ gb169)); have n6_ := Aside0.mk ((by rw [hg]; exact Nat.ne_of_gt (blk_lt (g := gb159) (o := .cells #[.int .u64 a0_0, .bool a0_1, .int .u64 a0_2, .bool a0_3, .int .u64 a0_4, .bool a0_5, .int .u64 a0_6, .bool a0_7, .int .u64 a0_8, .bool a0_9] 26 (0, 0)) (by (with_reducible repeat (first | refine blk_drewN ?_ _ | refine blk_drew ?_ | refine blk_alloc ?_ _)); exact BK159.out)) : gb169 ≠ gb159)); clear BK159; clear HB; have BK159 := n0_; have HB := n1_; have BK169 := n2_; have GW169 := n3_; have GE169 := n4_; have NB159_169 := n5_; have NB169_159 := n6_; clear n0_ n1_ n2_ n3_ n4_ n5_ n6_; clear hb hbox hg; have hnb53 := NB169_159.out; have hnc53 := NB159_169.out; have hcz54_0 : w52.cell? ⟨gb169, 0, none⟩ = some (.int .i64 0) := (blk_cell BK169.out 0).trans rfl; have hcz54_1 : w52.cell? ⟨gb169, 1, none⟩ = some (.int .i64 0) := (blk_cell BK169.out 1).trans rfl; have hcz54_2 : w52.cell? ⟨gb169, 2, none⟩ = some (.int .i64 0) := (blk_cell BK169.out 2).trans rfl; have hcz54_3 : w52.cell? ⟨gb169, 3, none⟩ = some (.int .i64 0) := (blk_cell BK169.out 3).trans rfl; have hcz54_4 : w52.cell? ⟨gb169, 4, none⟩ = some (.int .i64 0) := (blk_cell BK169.out 4).trans rfl; have hcz54_5 : w52.cell? ⟨gb169, 5, none⟩ = some (.int .i64 0) := (blk_cell BK169.out 5).trans rfl; have hfz54_0 := blk_frozen BK169.out 0; have hfz54_1 := blk_frozen BK169.out 1; have hfz54_2 := blk_frozen BK169.out 2; have hfz54_3 := blk_frozen BK169.out 3; have hfz54_4 := blk_frozen BK169.out 4; have hfz54_5 := blk_frozen BK169.out 5))
      go_ret2
      exact ⟨by first | rfl | (simp [errW_none, errW_some] <;> rfl) | (simp [*, errW_none, errW_some] <;> rfl), by repeat (first | (with_reducible first | exact HB.out | apply below_alloc | apply pw_below_drewN | apply below_drew1 | refine below_set ?_ GE159.out | refine below_set ?_ GE169.out) | exact HB.out)⟩
  · rw [if_neg c4] at H
    have c4b0 : (t161 == 0) = false := beq_eq_false_iff_ne.mpr c4
    have c4b1 : (t161 != 0) = true := bne_iff_ne.mpr c4
    simp only [Option.some.injEq, Prod.mk.injEq] at H
    obtain ⟨rfl, rfl⟩ := H
    go_enter Tryz.func16, Tryz.ntmps16
    go_wp2_with (first | ((with_reducible refine gate_dst (N := 2) rfl ?_); refine box_event ?hg (N := 2) ?hd (cs := #[.int .u64 a0_0, .bool a0_1, .int .u64 a0_2, .bool a0_3, .int .u64 a0_4, .bool a0_5, .int .u64 a0_6, .bool a0_7, .int .u64 a0_8, .bool a0_9]) (t := 26) ?hr ?_; (case hd => rfl); (case hg => rfl); (case hr => first | (go_simp; done) | (go_simp; rfl)); intro gb159 hg w55 hbox hb; have n0_ := Aside0.mk (below_step (by repeat (first | (with_reducible first | exact HB.out | apply below_alloc | apply pw_below_drewN | apply below_drew1) | exact HB.out)) hb); have n1_ := Aside0.mk (hbox); have n2_ := Aside0.mk ((by rw [hg]; exact (below_size (by repeat (first | (with_reducible first | exact HB.out | apply below_alloc | apply pw_below_drewN | apply below_drew1) | exact HB.out))) : w.heap.size ≤ gb159)); have n3_ := Aside0.mk ((by rw [hg]; exact (below_size (by repeat (first | (with_reducible first | exact HB.out | apply below_alloc | apply pw_below_drewN | apply below_drew1) | exact HB.out))) : w.heap.size ≤ gb159)); clear HB; have HB := n0_; have BK159 := n1_; have GW159 := n2_; have GE159 := n3_; clear n0_ n1_ n2_ n3_; clear hb hbox hg; have hcz56_0 : w55.cell? ⟨gb159, 0, none⟩ = some (.int .u64 a0_0) := (blk_cell BK159.out 0).trans rfl; have hcz56_1 : w55.cell? ⟨gb159, 1, none⟩ = some (.bool a0_1) := (blk_cell BK159.out 1).trans rfl; have hcz56_2 : w55.cell? ⟨gb159, 2, none⟩ = some (.int .u64 a0_2) := (blk_cell BK159.out 2).trans rfl; have hcz56_3 : w55.cell? ⟨gb159, 3, none⟩ = some (.bool a0_3) := (blk_cell BK159.out 3).trans rfl; have hcz56_4 : w55.cell? ⟨gb159, 4, none⟩ = some (.int .u64 a0_4) := (blk_cell BK159.out 4).trans rfl; have hcz56_5 : w55.cell? ⟨gb159, 5, none⟩ = some (.bool a0_5) := (blk_cell BK159.out 5).trans rfl; have hcz56_6 : w55.cell? ⟨gb159, 6, none⟩ = some (.int .u64 a0_6) := (blk_cell BK159.out 6).trans rfl; have hcz56_7 : w55.cell? ⟨gb159, 7, none⟩ = some (.bool a0_7) := (blk_cell BK159.out 7).trans rfl; have hcz56_8 : w55.cell? ⟨gb159, 8, none⟩ = some (.int .u64 a0_8) := (blk_cell BK159.out 8).trans rfl; have hcz56_9 : w55.cell? ⟨gb159, 9, none⟩ = some (.bool a0_9) := (blk_cell BK159.out 9).trans rfl; have hfz56_0 := blk_frozen BK159.out 0; have hfz56_1 := blk_frozen BK159.out 1; have hfz56_2 := blk_frozen BK159.out 2; have hfz56_3 := blk_frozen BK159.out 3; have hfz56_4 := blk_frozen BK159.out 4; have hfz56_5 := blk_frozen BK159.out 5; have hfz56_6 := blk_frozen BK159.out 6; have hfz56_7 := blk_frozen BK159.out 7; have hfz56_8 := blk_frozen BK159.out 8; have hfz56_9 := blk_frozen BK159.out 9) | ((with_reducible refine gate_callee (f := 41) rfl ?_); refine goesL_ (some 15) rfl rfl Tryz.func41 (by kernel_rfl) rfl #[.agg #[.int .u64 a0_0, .bool a0_1, .int .u64 a0_2, .bool a0_3, .int .u64 a0_4, .bool a0_5, .int .u64 a0_6, .bool a0_7, .int .u64 a0_8, .bool a0_9]] rfl (by (try simp only [List.map_toArray, List.map_cons, List.map_nil]); first | done | rfl | (simp only [List.length_drop, List.length_take]; rfl)) ?_; (with_reducible refine (complineref19_Check.calls k a0_0 a0_1 a0_2 a0_3 a0_4 a0_5 a0_6 a0_7 a0_8 a0_9 t160 t161 _ A3.out).mono ?_); rintro e w57 ⟨rfl, hb⟩; refine ⟨_, rfl, ?_⟩; have n0_ := Aside0.mk (blk_below (g := gb159) (o := .cells #[.int .u64 a0_0, .bool a0_1, .int .u64 a0_2, .bool a0_3, .int .u64 a0_4, .bool a0_5, .int .u64 a0_6, .bool a0_7, .int .u64 a0_8, .bool a0_9] 26 (0, 0)) (by (with_reducible repeat (first | refine blk_drewN ?_ _ | refine blk_drew ?_ | refine blk_alloc ?_ _)); exact BK159.out) hb); have n1_ := Aside0.mk (below_step (by repeat (first | (with_reducible first | exact HB.out | apply below_alloc | apply pw_below_drewN | apply below_drew1 | refine below_set ?_ GE159.out) | exact HB.out)) hb); clear BK159; clear HB; have BK159 := n0_; have HB := n1_; clear n0_ n1_; (try clear hb); (try clear hb2); (try clear hk); (try clear hi)))
    go_ret2
    exact ⟨by first | rfl | (simp [errW_none, errW_some] <;> rfl) | (simp [*, errW_none, errW_some] <;> rfl), by repeat (first | (with_reducible first | exact HB.out | apply below_alloc | apply pw_below_drewN | apply below_drew1 | refine below_set ?_ GE159.out) | exact HB.out)⟩

/-! ### complineref18_Count: function 18 -/
def complineref18_Count.l0 : Nat → Int → Int → Int → Bool → Option (Int)
  | 0, _, _, _, _ => none
  | k + 1, x3, x4, x174000, x174001 => if x4 < 64 then ((complineref18_Has.f k x174000 x174001 x4).bind fun t174 => (if t174 = true then (complineref18_Count.l0 k (wrap64 (x3 + 1)) (wrap64 (x4 + 1)) x174000 x174001) else (complineref18_Count.l0 k x3 (wrap64 (x4 + 1)) x174000 x174001))) else (some x3)
def complineref18_Count.f (k : Nat) (a0_0 : Int) (a0_1 : Bool) : Option (Int) := complineref18_Count.l0 k 0 0 a0_0 a0_1
theorem complineref18_Count.mono_l : ∀ k, (∀ y0 y1 y2 y3, LeO (complineref18_Count.l0 k y0 y1 y2 y3) (complineref18_Count.l0 (k + 1) y0 y1 y2 y3))
  | 0 => fun _ _ _ _ r h => by simp [complineref18_Count.l0] at h
  | k + 1 => by
    have ih0 := complineref18_Count.mono_l k
    · intro y0 y1 y2 y3
      unfold complineref18_Count.l0
      repeat' first
      | (with_reducible exact ih0 _ _ _ _)
      | (with_reducible exact complineref18_Has.mono _ _ _ _)
      | (with_reducible exact LeO.refl _)
      | (with_reducible exact LeO.none _)
      | (with_reducible refine LeO.ite ?_ ?_)
      | (with_reducible refine LeO.bind ?_ (fun _ => ?_))
      | exact ih0 _ _ _ _
      | exact complineref18_Has.mono _ _ _ _
      | exact LeO.none _
      | refine LeO.ite ?_ ?_
      | refine LeO.bind ?_ (fun _ => ?_)
theorem complineref18_Count.mono : ∀ a0 a1 k, LeO (complineref18_Count.f k a0 a1) (complineref18_Count.f (k + 1) a0 a1) := by
  intro a0 a1 k
  have ih0 := complineref18_Count.mono_l k
  unfold complineref18_Count.f
  repeat' first
      | (with_reducible exact ih0 _ _ _ _)
      | (with_reducible exact complineref18_Has.mono _ _ _ _)
      | (with_reducible exact LeO.refl _)
      | (with_reducible exact LeO.none _)
      | (with_reducible refine LeO.ite ?_ ?_)
      | (with_reducible refine LeO.bind ?_ (fun _ => ?_))
      | exact ih0 _ _ _ _
      | exact complineref18_Has.mono _ _ _ _
      | exact LeO.none _
      | refine LeO.ite ?_ ?_
      | refine LeO.bind ?_ (fun _ => ?_)
set_option maxHeartbeats 8000000 in
set_option maxRecDepth 100000 in
theorem complineref18_Count.calls (k : Nat) (a0_0 : Int) (a0_1 : Bool) (r : Int) (w : World) (h : complineref18_Count.f k a0_0 a0_1 = some r) :
    Calls Tryz.prog 18 #[.agg #[.int .u64 a0_0, .bool a0_1]] w fun e w' => e = .returned (.int .i64 r) ∧ Below w.heap.size w w' := by
  have hu24 := Tryz.underlying24
  have HB := Aside0.mk (Below.refl w.heap.size w)
  have H : (complineref18_Count.l0 k 0 0 a0_0 a0_1) = some r := h
  clear h
  have H' := Aside0.mk H
  clear H
  go_enter Tryz.func18, Tryz.ntmps18
  go_wp2_with (first | ((with_reducible refine gate_dst (N := 1) rfl ?_); refine box_event ?hg (N := 1) ?hd (cs := #[.int .u64 a0_0, .bool a0_1]) (t := 24) ?hr ?_; (case hd => rfl); (case hg => rfl); (case hr => first | (go_simp; done) | (go_simp; rfl)); intro gb173 hg w2 hbox hb; have n0_ := Aside0.mk (below_step (by repeat (first | (with_reducible first | exact HB.out | apply below_alloc | apply pw_below_drewN | apply below_drew1) | exact HB.out)) hb); have n1_ := Aside0.mk (hbox); have n2_ := Aside0.mk ((by rw [hg]; exact (below_size (by repeat (first | (with_reducible first | exact HB.out | apply below_alloc | apply pw_below_drewN | apply below_drew1) | exact HB.out))) : w.heap.size ≤ gb173)); have n3_ := Aside0.mk ((by rw [hg]; exact (below_size (by repeat (first | (with_reducible first | exact HB.out | apply below_alloc | apply pw_below_drewN | apply below_drew1) | exact HB.out))) : w.heap.size ≤ gb173)); clear HB; have HB := n0_; have BK173 := n1_; have GW173 := n2_; have GE173 := n3_; clear n0_ n1_ n2_ n3_; clear hb hbox hg))
  go_loopg [3, 4] k (fun kq v3 v4 w' => ∃ (x3_1 : Int) (x4_1 : Int), v3 = .int .i64 x3_1 ∧ v4 = .int .i64 x4_1 ∧ Aside0 (complineref18_Count.l0 kq x3_1 x4_1 a0_0 a0_1 = some r) ∧ Aside0 (kq ≤ k) ∧ Aside0 (w'.heap[gb173]? = some (.cells #[.int .u64 a0_0, .bool a0_1] 24 (0, 0))) ∧ Aside0 (Below w.heap.size w w'))
  case atStart => exact ⟨(0), (0), (by first | rfl | (simp; done) | (simp [*]; done)), (by first | rfl | (simp; done) | (simp [*]; done)), H', ⟨Nat.le_refl _⟩, ⟨by (with_reducible repeat (first | refine blk_drewN ?_ _ | refine blk_drew ?_ | refine blk_alloc ?_ _)); exact BK173.out⟩, ⟨by repeat (first | (with_reducible first | exact HB.out | apply below_alloc | apply pw_below_drewN | apply below_drew1 | refine below_set ?_ GE173.out) | exact HB.out)⟩⟩
  case round =>
    clear H'
    try clear c1
    try clear p2
    obtain ⟨x3_1, x4_1, rfl, rfl, HA, HK1, BK173, HB⟩ := hrel
    cases gk with
    | zero => exact absurd HA.out (by simp [complineref18_Count.l0])
    | succ k1 =>
      have H := HA.out
      clear HA
      simp only [complineref18_Count.l0] at H
      by_cases c3 : x4_1 < 64
      · rw [if_pos c3] at H
        have c3b0 : decide (x4_1 < 64) = true := decide_eq_true c3
        clear c3
        replace H := Option.bind_eq_some_iff.mp H
        obtain ⟨t174, A40, H⟩ := H
        replace H : (if t174 = true then (complineref18_Count.l0 k1 (wrap64 (x3_1 + 1)) (wrap64 (x4_1 + 1)) a0_0 a0_1) else (complineref18_Count.l0 k1 x3_1 (wrap64 (x4_1 + 1)) a0_0 a0_1)) = some r := H
        have A4 := Aside0.mk A40
        clear A40
        by_cases c5 : t174 = true
        · subst c5
          have H1 : (complineref18_Count.l0 k1 (wrap64 (x3_1 + 1)) (wrap64 (x4_1 + 1)) a0_0 a0_1) = some r := by rw [if_pos rfl] at H; exact H
          clear H
          have H := H1
          clear H1
          have H' := Aside0.mk H
          clear H
          have hcz6_0 : wr.cell? ⟨gb173, 0, none⟩ = some (.int .u64 a0_0) := (blk_cell BK173.out 0).trans rfl
          have hcz6_1 : wr.cell? ⟨gb173, 1, none⟩ = some (.bool a0_1) := (blk_cell BK173.out 1).trans rfl
          have hfz6_0 := blk_frozen BK173.out 0
          have hfz6_1 := blk_frozen BK173.out 1
          go_wp2_with (first | ((with_reducible refine gate_callee (f := 44) rfl ?_); refine goesL_ (some 12) rfl rfl Tryz.func44 (by kernel_rfl) rfl #[.agg #[.int .u64 a0_0, .bool a0_1], .int .i64 x4_1] rfl (by (try simp only [List.map_toArray, List.map_cons, List.map_nil]); first | done | rfl | (simp only [List.length_drop, List.length_take]; rfl)) ?_; (with_reducible refine (complineref18_Has.calls k1 a0_0 a0_1 x4_1 true _ A4.out).mono ?_); rintro e w7 ⟨rfl, hb⟩; refine ⟨_, rfl, ?_⟩; have n0_ := Aside0.mk (blk_below (g := gb173) (o := .cells #[.int .u64 a0_0, .bool a0_1] 24 (0, 0)) (by (with_reducible repeat (first | refine blk_drewN ?_ _ | refine blk_drew ?_ | refine blk_alloc ?_ _)); exact BK173.out) hb); have n1_ := Aside0.mk (below_step (by repeat (first | (with_reducible first | exact HB.out | apply below_alloc | apply pw_below_drewN | apply below_drew1 | refine below_set ?_ GE173.out) | exact HB.out)) hb); clear BK173; clear HB; have BK173 := n0_; have HB := n1_; clear n0_ n1_; (try clear hb); (try clear hb2); (try clear hk); (try clear hi)))
          go_roundg k1
          case measure => have := HK1.out; omega
          case rel => exact ⟨(wrap64 (x3_1 + 1)), (wrap64 (x4_1 + 1)), (by first | rfl | (simp; done) | (simp [*]; done)), (by first | rfl | (simp; done) | (simp [*]; done)), H', ⟨by have := HK1.out; omega⟩, ⟨by (with_reducible repeat (first | refine blk_drewN ?_ _ | refine blk_drew ?_ | refine blk_alloc ?_ _)); exact BK173.out⟩, ⟨by repeat (first | (with_reducible first | exact HB.out | apply below_alloc | apply pw_below_drewN | apply below_drew1 | refine below_set ?_ GE173.out) | exact HB.out)⟩⟩
        · replace c5 := Bool.eq_false_iff.mpr c5
          subst c5
          have H1 : (complineref18_Count.l0 k1 x3_1 (wrap64 (x4_1 + 1)) a0_0 a0_1) = some r := by rw [if_neg (show ¬ (false = true) by decide)] at H; exact H
          clear H
          have H := H1
          clear H1
          have H' := Aside0.mk H
          clear H
          have hcz8_0 : wr.cell? ⟨gb173, 0, none⟩ = some (.int .u64 a0_0) := (blk_cell BK173.out 0).trans rfl
          have hcz8_1 : wr.cell? ⟨gb173, 1, none⟩ = some (.bool a0_1) := (blk_cell BK173.out 1).trans rfl
          have hfz8_0 := blk_frozen BK173.out 0
          have hfz8_1 := blk_frozen BK173.out 1
          go_wp2_with (first | ((with_reducible refine gate_callee (f := 44) rfl ?_); refine goesL_ (some 12) rfl rfl Tryz.func44 (by kernel_rfl) rfl #[.agg #[.int .u64 a0_0, .bool a0_1], .int .i64 x4_1] rfl (by (try simp only [List.map_toArray, List.map_cons, List.map_nil]); first | done | rfl | (simp only [List.length_drop, List.length_take]; rfl)) ?_; (with_reducible refine (complineref18_Has.calls k1 a0_0 a0_1 x4_1 false _ A4.out).mono ?_); rintro e w9 ⟨rfl, hb⟩; refine ⟨_, rfl, ?_⟩; have n0_ := Aside0.mk (blk_below (g := gb173) (o := .cells #[.int .u64 a0_0, .bool a0_1] 24 (0, 0)) (by (with_reducible repeat (first | refine blk_drewN ?_ _ | refine blk_drew ?_ | refine blk_alloc ?_ _)); exact BK173.out) hb); have n1_ := Aside0.mk (below_step (by repeat (first | (with_reducible first | exact HB.out | apply below_alloc | apply pw_below_drewN | apply below_drew1 | refine below_set ?_ GE173.out) | exact HB.out)) hb); clear BK173; clear HB; have BK173 := n0_; have HB := n1_; clear n0_ n1_; (try clear hb); (try clear hb2); (try clear hk); (try clear hi)))
          go_roundg k1
          case measure => have := HK1.out; omega
          case rel => exact ⟨(x3_1), (wrap64 (x4_1 + 1)), (by first | rfl | (simp; done) | (simp [*]; done)), (by first | rfl | (simp; done) | (simp [*]; done)), H', ⟨by have := HK1.out; omega⟩, ⟨by (with_reducible repeat (first | refine blk_drewN ?_ _ | refine blk_drew ?_ | refine blk_alloc ?_ _)); exact BK173.out⟩, ⟨by repeat (first | (with_reducible first | exact HB.out | apply below_alloc | apply pw_below_drewN | apply below_drew1 | refine below_set ?_ GE173.out) | exact HB.out)⟩⟩
      · rw [if_neg c3] at H
        have c3b0 : decide (x4_1 < 64) = false := decide_eq_false c3
        clear c3
        obtain rfl := Option.some.inj H
        go_wp2
        go_ret
        exact ⟨by first | rfl | (simp [errW_none, errW_some] <;> rfl) | (simp [*, errW_none, errW_some] <;> rfl), by repeat (first | (with_reducible first | exact HB.out | apply below_alloc | apply pw_below_drewN | apply below_drew1 | refine below_set ?_ GE173.out) | exact HB.out)⟩

/-! ### complineref18_First: function 63 -/
def complineref18_First.l0 : Nat → Int → Int → Bool → Option (Int × Bool)
  | 0, _, _, _ => none
  | k + 1, x6, x176000, x176001 => if x6 < 64 then ((complineref18_Has.f k x176000 x176001 x6).bind fun t176 => (if t176 = true then (some (x6, true)) else (complineref18_First.l0 k (wrap64 (x6 + 1)) x176000 x176001))) else (some (0, false))
def complineref18_First.f (k : Nat) (a0_0 : Int) (a0_1 : Bool) (a1 : Int) : Option (Int × Bool) := complineref18_First.l0 k (mx a1 0) a0_0 a0_1
theorem complineref18_First.mono_l : ∀ k, (∀ y0 y1 y2, LeO (complineref18_First.l0 k y0 y1 y2) (complineref18_First.l0 (k + 1) y0 y1 y2))
  | 0 => fun _ _ _ r h => by simp [complineref18_First.l0] at h
  | k + 1 => by
    have ih0 := complineref18_First.mono_l k
    · intro y0 y1 y2
      unfold complineref18_First.l0
      repeat' first
      | (with_reducible exact ih0 _ _ _)
      | (with_reducible exact complineref18_Has.mono _ _ _ _)
      | (with_reducible exact LeO.refl _)
      | (with_reducible exact LeO.none _)
      | (with_reducible refine LeO.ite ?_ ?_)
      | (with_reducible refine LeO.bind ?_ (fun _ => ?_))
      | exact ih0 _ _ _
      | exact complineref18_Has.mono _ _ _ _
      | exact LeO.none _
      | refine LeO.ite ?_ ?_
      | refine LeO.bind ?_ (fun _ => ?_)
theorem complineref18_First.mono : ∀ a0 a1 a2 k, LeO (complineref18_First.f k a0 a1 a2) (complineref18_First.f (k + 1) a0 a1 a2) := by
  intro a0 a1 a2 k
  have ih0 := complineref18_First.mono_l k
  unfold complineref18_First.f
  repeat' first
      | (with_reducible exact ih0 _ _ _)
      | (with_reducible exact complineref18_Has.mono _ _ _ _)
      | (with_reducible exact LeO.refl _)
      | (with_reducible exact LeO.none _)
      | (with_reducible refine LeO.ite ?_ ?_)
      | (with_reducible refine LeO.bind ?_ (fun _ => ?_))
      | exact ih0 _ _ _
      | exact complineref18_Has.mono _ _ _ _
      | exact LeO.none _
      | refine LeO.ite ?_ ?_
      | refine LeO.bind ?_ (fun _ => ?_)
set_option maxHeartbeats 8000000 in
set_option maxRecDepth 100000 in
theorem complineref18_First.calls (k : Nat) (a0_0 : Int) (a0_1 : Bool) (a1 : Int) (r1 : Int) (r2 : Bool) (w : World) (h : complineref18_First.f k a0_0 a0_1 a1 = some (r1, r2)) :
    Calls Tryz.prog 63 #[.agg #[.int .u64 a0_0, .bool a0_1], .int .i64 a1] w fun e w' => e = .returned (.tuple #[.int .i64 r1, .bool r2]) ∧ Below w.heap.size w w' := by
  have hu24 := Tryz.underlying24
  have HB := Aside0.mk (Below.refl w.heap.size w)
  have H : (complineref18_First.l0 k (mx a1 0) a0_0 a0_1) = some (r1, r2) := h
  clear h
  obtain ⟨ji3, hji3⟩ : ∃ j_ : Int, (mx a1 0) = j_ := ⟨_, rfl⟩
  replace H : (complineref18_First.l0 k ji3 a0_0 a0_1) = some (r1, r2) := by first | (rw [hji3] at H; exact H) | (simp only [hji3] at H ⊢; exact H)
  (try (have hji3l : 0 ≤ ji3 := by (rw [← hji3]; unfold mx; (repeat' split) <;> omega)))
  (try (have hji3m : 0 ≤ ji3 := by omega))
  have hji3_ : (if a1 < 0 then 0 else a1) = ji3 := hji3
  have H' := Aside0.mk H
  clear H
  go_enter Tryz.func63, Tryz.ntmps63
  go_wp2_with (first | ((with_reducible refine gate_dst (N := 2) rfl ?_); refine box_event ?hg (N := 2) ?hd (cs := #[.int .u64 a0_0, .bool a0_1]) (t := 24) ?hr ?_; (case hd => rfl); (case hg => rfl); (case hr => first | (go_simp; done) | (go_simp; rfl)); intro gb175 hg w4 hbox hb; have n0_ := Aside0.mk (below_step (by repeat (first | (with_reducible first | exact HB.out | apply below_alloc | apply pw_below_drewN | apply below_drew1) | exact HB.out)) hb); have n1_ := Aside0.mk (hbox); have n2_ := Aside0.mk ((by rw [hg]; exact (below_size (by repeat (first | (with_reducible first | exact HB.out | apply below_alloc | apply pw_below_drewN | apply below_drew1) | exact HB.out))) : w.heap.size ≤ gb175)); have n3_ := Aside0.mk ((by rw [hg]; exact (below_size (by repeat (first | (with_reducible first | exact HB.out | apply below_alloc | apply pw_below_drewN | apply below_drew1) | exact HB.out))) : w.heap.size ≤ gb175)); clear HB; have HB := n0_; have BK175 := n1_; have GW175 := n2_; have GE175 := n3_; clear n0_ n1_ n2_ n3_; clear hb hbox hg))
  go_loopg [6] k (fun kq v6 w' => ∃ (x6_1 : Int), v6 = .int .i64 x6_1 ∧ Aside0 (complineref18_First.l0 kq x6_1 a0_0 a0_1 = some (r1, r2)) ∧ Aside0 (kq ≤ k) ∧ Aside0 (w'.heap[gb175]? = some (.cells #[.int .u64 a0_0, .bool a0_1] 24 (0, 0))) ∧ Aside0 (Below w.heap.size w w'))
  case atStart => exact ⟨(ji3), (by first | rfl | (simp; done) | (simp only [← hji3] <;> (first | rfl | simp)) | (simp [*]; done)), H', ⟨Nat.le_refl _⟩, ⟨by (with_reducible repeat (first | refine blk_drewN ?_ _ | refine blk_drew ?_ | refine blk_alloc ?_ _)); exact BK175.out⟩, ⟨by repeat (first | (with_reducible first | exact HB.out | apply below_alloc | apply pw_below_drewN | apply below_drew1 | refine below_set ?_ GE175.out) | exact HB.out)⟩⟩
  case round =>
    clear H'
    try clear p2
    obtain ⟨x6_1, rfl, HA, HK1, BK175, HB⟩ := hrel
    cases gk with
    | zero => exact absurd HA.out (by simp [complineref18_First.l0])
    | succ k1 =>
      have H := HA.out
      clear HA
      simp only [complineref18_First.l0] at H
      by_cases c5 : x6_1 < 64
      · rw [if_pos c5] at H
        have c5b0 : decide (x6_1 < 64) = true := decide_eq_true c5
        clear c5
        replace H := Option.bind_eq_some_iff.mp H
        obtain ⟨t176, A60, H⟩ := H
        replace H : (if t176 = true then (some (x6_1, true)) else (complineref18_First.l0 k1 (wrap64 (x6_1 + 1)) a0_0 a0_1)) = some (r1, r2) := H
        have A6 := Aside0.mk A60
        clear A60
        by_cases c7 : t176 = true
        · subst c7
          have H1 : (some (x6_1, true)) = some (r1, r2) := by rw [if_pos rfl] at H; exact H
          clear H
          have H := H1
          clear H1
          simp only [Option.some.injEq, Prod.mk.injEq] at H
          obtain ⟨rfl, rfl⟩ := H
          have hcz8_0 : wr.cell? ⟨gb175, 0, none⟩ = some (.int .u64 a0_0) := (blk_cell BK175.out 0).trans rfl
          have hcz8_1 : wr.cell? ⟨gb175, 1, none⟩ = some (.bool a0_1) := (blk_cell BK175.out 1).trans rfl
          have hfz8_0 := blk_frozen BK175.out 0
          have hfz8_1 := blk_frozen BK175.out 1
          go_wp2_with (first | ((with_reducible refine gate_callee (f := 44) rfl ?_); refine goesL_ (some 16) rfl rfl Tryz.func44 (by kernel_rfl) rfl #[.agg #[.int .u64 a0_0, .bool a0_1], .int .i64 x6_1] rfl (by (try simp only [List.map_toArray, List.map_cons, List.map_nil]); first | done | rfl | (simp only [List.length_drop, List.length_take]; rfl)) ?_; (with_reducible refine (complineref18_Has.calls k1 a0_0 a0_1 x6_1 true _ A6.out).mono ?_); rintro e w9 ⟨rfl, hb⟩; refine ⟨_, rfl, ?_⟩; have n0_ := Aside0.mk (blk_below (g := gb175) (o := .cells #[.int .u64 a0_0, .bool a0_1] 24 (0, 0)) (by (with_reducible repeat (first | refine blk_drewN ?_ _ | refine blk_drew ?_ | refine blk_alloc ?_ _)); exact BK175.out) hb); have n1_ := Aside0.mk (below_step (by repeat (first | (with_reducible first | exact HB.out | apply below_alloc | apply pw_below_drewN | apply below_drew1 | refine below_set ?_ GE175.out) | exact HB.out)) hb); clear BK175; clear HB; have BK175 := n0_; have HB := n1_; clear n0_ n1_; (try clear hb); (try clear hb2); (try clear hk); (try clear hi)))
          go_ret2
          exact ⟨by first | rfl | (simp [errW_none, errW_some] <;> rfl) | (simp only [← hji3]; first | rfl | (simp [errW_none, errW_some] <;> rfl)) | (simp [*, errW_none, errW_some] <;> rfl), by repeat (first | (with_reducible first | exact HB.out | apply below_alloc | apply pw_below_drewN | apply below_drew1 | refine below_set ?_ GE175.out) | exact HB.out)⟩
        · replace c7 := Bool.eq_false_iff.mpr c7
          subst c7
          have H1 : (complineref18_First.l0 k1 (wrap64 (x6_1 + 1)) a0_0 a0_1) = some (r1, r2) := by rw [if_neg (show ¬ (false = true) by decide)] at H; exact H
          clear H
          have H := H1
          clear H1
          have H' := Aside0.mk H
          clear H
          have hcz10_0 : wr.cell? ⟨gb175, 0, none⟩ = some (.int .u64 a0_0) := (blk_cell BK175.out 0).trans rfl
          have hcz10_1 : wr.cell? ⟨gb175, 1, none⟩ = some (.bool a0_1) := (blk_cell BK175.out 1).trans rfl
          have hfz10_0 := blk_frozen BK175.out 0
          have hfz10_1 := blk_frozen BK175.out 1
          go_wp2_with (first | ((with_reducible refine gate_callee (f := 44) rfl ?_); refine goesL_ (some 16) rfl rfl Tryz.func44 (by kernel_rfl) rfl #[.agg #[.int .u64 a0_0, .bool a0_1], .int .i64 x6_1] rfl (by (try simp only [List.map_toArray, List.map_cons, List.map_nil]); first | done | rfl | (simp only [List.length_drop, List.length_take]; rfl)) ?_; (with_reducible refine (complineref18_Has.calls k1 a0_0 a0_1 x6_1 false _ A6.out).mono ?_); rintro e w11 ⟨rfl, hb⟩; refine ⟨_, rfl, ?_⟩; have n0_ := Aside0.mk (blk_below (g := gb175) (o := .cells #[.int .u64 a0_0, .bool a0_1] 24 (0, 0)) (by (with_reducible repeat (first | refine blk_drewN ?_ _ | refine blk_drew ?_ | refine blk_alloc ?_ _)); exact BK175.out) hb); have n1_ := Aside0.mk (below_step (by repeat (first | (with_reducible first | exact HB.out | apply below_alloc | apply pw_below_drewN | apply below_drew1 | refine below_set ?_ GE175.out) | exact HB.out)) hb); clear BK175; clear HB; have BK175 := n0_; have HB := n1_; clear n0_ n1_; (try clear hb); (try clear hb2); (try clear hk); (try clear hi)))
          go_roundg k1
          case measure => have := HK1.out; omega
          case rel => exact ⟨(wrap64 (x6_1 + 1)), (by first | rfl | (simp; done) | (simp [*]; done)), H', ⟨by have := HK1.out; omega⟩, ⟨by (with_reducible repeat (first | refine blk_drewN ?_ _ | refine blk_drew ?_ | refine blk_alloc ?_ _)); exact BK175.out⟩, ⟨by repeat (first | (with_reducible first | exact HB.out | apply below_alloc | apply pw_below_drewN | apply below_drew1 | refine below_set ?_ GE175.out) | exact HB.out)⟩⟩
      · rw [if_neg c5] at H
        have c5b0 : decide (x6_1 < 64) = false := decide_eq_false c5
        clear c5
        simp only [Option.some.injEq, Prod.mk.injEq] at H
        obtain ⟨rfl, rfl⟩ := H
        go_wp2
        go_ret2
        exact ⟨by first | rfl | (simp [errW_none, errW_some] <;> rfl) | (simp only [← hji3]; first | rfl | (simp [errW_none, errW_some] <;> rfl)) | (simp [*, errW_none, errW_some] <;> rfl), by repeat (first | (with_reducible first | exact HB.out | apply below_alloc | apply pw_below_drewN | apply below_drew1 | refine below_set ?_ GE175.out) | exact HB.out)⟩

/-! ### complineref20_end: function 64 -/
def complineref20_end.l0 : Nat → Int → Int → Bool → Option (Int)
  | 0, _, _, _ => none
  | k + 1, x1, x178000, x178001 => (complineref18_Has.f k x178000 x178001 (wrap64 (x1 + 1))).bind fun t178 => (if t178 = true then (complineref20_end.l0 k (wrap64 (x1 + 1)) x178000 x178001) else (some x1))
def complineref20_end.f (k : Nat) (a0_0 : Int) (a0_1 : Bool) (a1 : Int) : Option (Int) := complineref20_end.l0 k a1 a0_0 a0_1
theorem complineref20_end.mono_l : ∀ k, (∀ y0 y1 y2, LeO (complineref20_end.l0 k y0 y1 y2) (complineref20_end.l0 (k + 1) y0 y1 y2))
  | 0 => fun _ _ _ r h => by simp [complineref20_end.l0] at h
  | k + 1 => by
    have ih0 := complineref20_end.mono_l k
    · intro y0 y1 y2
      unfold complineref20_end.l0
      repeat' first
      | (with_reducible exact ih0 _ _ _)
      | (with_reducible exact complineref18_Has.mono _ _ _ _)
      | (with_reducible exact LeO.refl _)
      | (with_reducible exact LeO.none _)
      | (with_reducible refine LeO.ite ?_ ?_)
      | (with_reducible refine LeO.bind ?_ (fun _ => ?_))
      | exact ih0 _ _ _
      | exact complineref18_Has.mono _ _ _ _
      | exact LeO.none _
      | refine LeO.ite ?_ ?_
      | refine LeO.bind ?_ (fun _ => ?_)
theorem complineref20_end.mono : ∀ a0 a1 a2 k, LeO (complineref20_end.f k a0 a1 a2) (complineref20_end.f (k + 1) a0 a1 a2) := by
  intro a0 a1 a2 k
  have ih0 := complineref20_end.mono_l k
  unfold complineref20_end.f
  repeat' first
      | (with_reducible exact ih0 _ _ _)
      | (with_reducible exact complineref18_Has.mono _ _ _ _)
      | (with_reducible exact LeO.refl _)
      | (with_reducible exact LeO.none _)
      | (with_reducible refine LeO.ite ?_ ?_)
      | (with_reducible refine LeO.bind ?_ (fun _ => ?_))
      | exact ih0 _ _ _
      | exact complineref18_Has.mono _ _ _ _
      | exact LeO.none _
      | refine LeO.ite ?_ ?_
      | refine LeO.bind ?_ (fun _ => ?_)
set_option maxHeartbeats 8000000 in
set_option maxRecDepth 100000 in
theorem complineref20_end.calls (k : Nat) (a0_0 : Int) (a0_1 : Bool) (a1 : Int) (r : Int) (w : World) (h : complineref20_end.f k a0_0 a0_1 a1 = some r) :
    Calls Tryz.prog 64 #[.agg #[.int .u64 a0_0, .bool a0_1], .int .i64 a1] w fun e w' => e = .returned (.int .i64 r) ∧ Below w.heap.size w w' := by
  have hu24 := Tryz.underlying24
  have HB := Aside0.mk (Below.refl w.heap.size w)
  have H : (complineref20_end.l0 k a1 a0_0 a0_1) = some r := h
  clear h
  have H' := Aside0.mk H
  clear H
  go_enter Tryz.func64, Tryz.ntmps64
  go_wp2_with (first | ((with_reducible refine gate_dst (N := 2) rfl ?_); refine box_event ?hg (N := 2) ?hd (cs := #[.int .u64 a0_0, .bool a0_1]) (t := 24) ?hr ?_; (case hd => rfl); (case hg => rfl); (case hr => first | (go_simp; done) | (go_simp; rfl)); intro gb177 hg w3 hbox hb; have n0_ := Aside0.mk (below_step (by repeat (first | (with_reducible first | exact HB.out | apply below_alloc | apply pw_below_drewN | apply below_drew1) | exact HB.out)) hb); have n1_ := Aside0.mk (hbox); have n2_ := Aside0.mk ((by rw [hg]; exact (below_size (by repeat (first | (with_reducible first | exact HB.out | apply below_alloc | apply pw_below_drewN | apply below_drew1) | exact HB.out))) : w.heap.size ≤ gb177)); have n3_ := Aside0.mk ((by rw [hg]; exact (below_size (by repeat (first | (with_reducible first | exact HB.out | apply below_alloc | apply pw_below_drewN | apply below_drew1) | exact HB.out))) : w.heap.size ≤ gb177)); clear HB; have HB := n0_; have BK177 := n1_; have GW177 := n2_; have GE177 := n3_; clear n0_ n1_ n2_ n3_; clear hb hbox hg))
  go_loopg [1] k (fun kq v1 w' => ∃ (x1_1 : Int), v1 = .int .i64 x1_1 ∧ Aside0 (complineref20_end.l0 kq x1_1 a0_0 a0_1 = some r) ∧ Aside0 (kq ≤ k) ∧ Aside0 (w'.heap[gb177]? = some (.cells #[.int .u64 a0_0, .bool a0_1] 24 (0, 0))) ∧ Aside0 (Below w.heap.size w w'))
  case atStart => exact ⟨(a1), (by first | rfl | (simp; done) | (simp [*]; done)), H', ⟨Nat.le_refl _⟩, ⟨by (with_reducible repeat (first | refine blk_drewN ?_ _ | refine blk_drew ?_ | refine blk_alloc ?_ _)); exact BK177.out⟩, ⟨by repeat (first | (with_reducible first | exact HB.out | apply below_alloc | apply pw_below_drewN | apply below_drew1 | refine below_set ?_ GE177.out) | exact HB.out)⟩⟩
  case round =>
    clear H'
    try clear p2
    obtain ⟨x1_1, rfl, HA, HK1, BK177, HB⟩ := hrel
    cases gk with
    | zero => exact absurd HA.out (by simp [complineref20_end.l0])
    | succ k1 =>
      have H := HA.out
      clear HA
      simp only [complineref20_end.l0] at H
      replace H := Option.bind_eq_some_iff.mp H
      obtain ⟨t178, A40, H⟩ := H
      replace H : (if t178 = true then (complineref20_end.l0 k1 (wrap64 (x1_1 + 1)) a0_0 a0_1) else (some x1_1)) = some r := H
      have A4 := Aside0.mk A40
      clear A40
      by_cases c5 : t178 = true
      · subst c5
        have H1 : (complineref20_end.l0 k1 (wrap64 (x1_1 + 1)) a0_0 a0_1) = some r := by rw [if_pos rfl] at H; exact H
        clear H
        have H := H1
        clear H1
        have H' := Aside0.mk H
        clear H
        have hcz6_0 : wr.cell? ⟨gb177, 0, none⟩ = some (.int .u64 a0_0) := (blk_cell BK177.out 0).trans rfl
        have hcz6_1 : wr.cell? ⟨gb177, 1, none⟩ = some (.bool a0_1) := (blk_cell BK177.out 1).trans rfl
        have hfz6_0 := blk_frozen BK177.out 0
        have hfz6_1 := blk_frozen BK177.out 1
        go_wp2_with (first | ((with_reducible refine gate_callee (f := 44) rfl ?_); refine goesL_ (some 9) rfl rfl Tryz.func44 (by kernel_rfl) rfl #[.agg #[.int .u64 a0_0, .bool a0_1], .int .i64 (wrap64 (x1_1 + 1))] rfl (by (try simp only [List.map_toArray, List.map_cons, List.map_nil]); first | done | rfl | (simp only [List.length_drop, List.length_take]; rfl)) ?_; (with_reducible refine (complineref18_Has.calls k1 a0_0 a0_1 (wrap64 (x1_1 + 1)) true _ A4.out).mono ?_); rintro e w7 ⟨rfl, hb⟩; refine ⟨_, rfl, ?_⟩; have n0_ := Aside0.mk (blk_below (g := gb177) (o := .cells #[.int .u64 a0_0, .bool a0_1] 24 (0, 0)) (by (with_reducible repeat (first | refine blk_drewN ?_ _ | refine blk_drew ?_ | refine blk_alloc ?_ _)); exact BK177.out) hb); have n1_ := Aside0.mk (below_step (by repeat (first | (with_reducible first | exact HB.out | apply below_alloc | apply pw_below_drewN | apply below_drew1 | refine below_set ?_ GE177.out) | exact HB.out)) hb); clear BK177; clear HB; have BK177 := n0_; have HB := n1_; clear n0_ n1_; (try clear hb); (try clear hb2); (try clear hk); (try clear hi)))
        go_roundg k1
        case measure => have := HK1.out; omega
        case rel => exact ⟨(wrap64 (x1_1 + 1)), (by first | rfl | (simp; done) | (simp [*]; done)), H', ⟨by have := HK1.out; omega⟩, ⟨by (with_reducible repeat (first | refine blk_drewN ?_ _ | refine blk_drew ?_ | refine blk_alloc ?_ _)); exact BK177.out⟩, ⟨by repeat (first | (with_reducible first | exact HB.out | apply below_alloc | apply pw_below_drewN | apply below_drew1 | refine below_set ?_ GE177.out) | exact HB.out)⟩⟩
      · replace c5 := Bool.eq_false_iff.mpr c5
        subst c5
        have H1 : (some x1_1) = some r := by rw [if_neg (show ¬ (false = true) by decide)] at H; exact H
        clear H
        have H := H1
        clear H1
        obtain rfl := Option.some.inj H
        have hcz8_0 : wr.cell? ⟨gb177, 0, none⟩ = some (.int .u64 a0_0) := (blk_cell BK177.out 0).trans rfl
        have hcz8_1 : wr.cell? ⟨gb177, 1, none⟩ = some (.bool a0_1) := (blk_cell BK177.out 1).trans rfl
        have hfz8_0 := blk_frozen BK177.out 0
        have hfz8_1 := blk_frozen BK177.out 1
        go_wp2_with (first | ((with_reducible refine gate_callee (f := 44) rfl ?_); refine goesL_ (some 9) rfl rfl Tryz.func44 (by kernel_rfl) rfl #[.agg #[.int .u64 a0_0, .bool a0_1], .int .i64 (wrap64 (x1_1 + 1))] rfl (by (try simp only [List.map_toArray, List.map_cons, List.map_nil]); first | done | rfl | (simp only [List.length_drop, List.length_take]; rfl)) ?_; (with_reducible refine (complineref18_Has.calls k1 a0_0 a0_1 (wrap64 (x1_1 + 1)) false _ A4.out).mono ?_); rintro e w9 ⟨rfl, hb⟩; refine ⟨_, rfl, ?_⟩; have n0_ := Aside0.mk (blk_below (g := gb177) (o := .cells #[.int .u64 a0_0, .bool a0_1] 24 (0, 0)) (by (with_reducible repeat (first | refine blk_drewN ?_ _ | refine blk_drew ?_ | refine blk_alloc ?_ _)); exact BK177.out) hb); have n1_ := Aside0.mk (below_step (by repeat (first | (with_reducible first | exact HB.out | apply below_alloc | apply pw_below_drewN | apply below_drew1 | refine below_set ?_ GE177.out) | exact HB.out)) hb); clear BK177; clear HB; have BK177 := n0_; have HB := n1_; clear n0_ n1_; (try clear hb); (try clear hb2); (try clear hk); (try clear hi)))
        go_ret
        exact ⟨by first | rfl | (simp [errW_none, errW_some] <;> rfl) | (simp [*, errW_none, errW_some] <;> rfl), by repeat (first | (with_reducible first | exact HB.out | apply below_alloc | apply pw_below_drewN | apply below_drew1 | refine below_set ?_ GE177.out) | exact HB.out)⟩

end Go.Proofs.YtkdejfedigiohaaGreatDoor.PR
