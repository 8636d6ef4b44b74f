-- PRINTED by print.py (a twelfth state) out of the translation. Not trusted: Lean checks it.
import Derived.Test.YtkdejfedigiohaaGreatDoorPRs0
import Derived.Test.YtkdejfedigiohaaGreatDoorPRs1
namespace Go.Proofs.YtkdejfedigiohaaGreatDoor.PS
open Go.RowKit Go.Proofs.YtkdejfedigiohaaGreatDoorW.PrintWords Go.Proofs.YtkdejfedigiohaaGreatDoorW.PrintLast Go.Proofs.YtkdejfedigiohaaGreatDoorW.PrintMore
attribute [local go_sem] max2_int min2_int max_two min_two max_three min_three max_four min_four   -- for this text's walks alone
set_option linter.unusedVariables false
set_option linter.unusedSimpArgs false

/-! ### complineref19_Check: function 41 -/
def complineref19_Check.l0 : Nat → List (S24) → Int → Option (Int × Int)
  | 0, _, _ => none
  | k + 1, x4, x5 => if x5 < 5 then (if 0 ≤ x5 then (if x5 < (x4.length : Int) then ((complineref18_Check.f k ((rd_T24 x4 x5).f0) ((rd_T24 x4 x5).f1) x5).bind fun t123 => (if t123 = 0 then (complineref19_Check.l0 k x4 (wrap64 (x5 + 1))) else (some (wrap64 (x5 + 1), t123)))) else (none)) else (none)) else (some (0, 0))
def complineref19_Check.f (k : Nat) (a0_0 : Int) (a0_1 : Bool) (a0_2 : Int) (a0_3 : Bool) (a0_4 : Int) (a0_5 : Bool) (a0_6 : Int) (a0_7 : Bool) (a0_8 : Int) (a0_9 : Bool) : Option (Int × Int) := (complineref19_Fields.f a0_0 a0_1 a0_2 a0_3 a0_4 a0_5 a0_6 a0_7 a0_8 a0_9).bind fun t119 => (complineref19_Check.l0 k t119 0)
theorem complineref19_Check.mono_l : ∀ k, (∀ y0 y1, LeO (complineref19_Check.l0 k y0 y1) (complineref19_Check.l0 (k + 1) y0 y1))
  | 0 => fun _ _ r h => by simp [complineref19_Check.l0] at h
  | k + 1 => by
    have ih0 := complineref19_Check.mono_l k
    · intro y0 y1
      unfold complineref19_Check.l0
      repeat' first
      | (with_reducible exact ih0 _ _)
      | (with_reducible exact complineref18_Check.mono _ _ _ _)
      | (with_reducible exact LeO.refl _)
      | (with_reducible exact LeO.none _)
      | (with_reducible refine LeO.ite ?_ ?_)
      | (with_reducible refine LeO.bind ?_ (fun _ => ?_))
      | exact ih0 _ _
      | exact complineref18_Check.mono _ _ _ _
      | exact LeO.none _
      | refine LeO.ite ?_ ?_
      | refine LeO.bind ?_ (fun _ => ?_)
theorem complineref19_Check.mono : ∀ a0 a1 a2 a3 a4 a5 a6 a7 a8 a9 k, LeO (complineref19_Check.f k a0 a1 a2 a3 a4 a5 a6 a7 a8 a9) (complineref19_Check.f (k + 1) a0 a1 a2 a3 a4 a5 a6 a7 a8 a9) := by
  intro a0 a1 a2 a3 a4 a5 a6 a7 a8 a9 k
  have ih0 := complineref19_Check.mono_l k
  unfold complineref19_Check.f
  repeat' first
      | (with_reducible exact ih0 _ _)
      | (with_reducible exact complineref18_Check.mono _ _ _ _)
      | (with_reducible exact LeO.refl _)
      | (with_reducible exact LeO.none _)
      | (with_reducible refine LeO.ite ?_ ?_)
      | (with_reducible refine LeO.bind ?_ (fun _ => ?_))
      | exact ih0 _ _
      | exact complineref18_Check.mono _ _ _ _
      | exact LeO.none _
      | refine LeO.ite ?_ ?_
      | refine LeO.bind ?_ (fun _ => ?_)
set_option maxHeartbeats 8000000 in
set_option maxRecDepth 100000 in
theorem complineref19_Check.calls (k : Nat) (a0_0 : Int) (a0_1 : Bool) (a0_2 : Int) (a0_3 : Bool) (a0_4 : Int) (a0_5 : Bool) (a0_6 : Int) (a0_7 : Bool) (a0_8 : Int) (a0_9 : Bool) (r1 : Int) (r2 : Int) (w : World) (h : complineref19_Check.f k a0_0 a0_1 a0_2 a0_3 a0_4 a0_5 a0_6 a0_7 a0_8 a0_9 = some (r1, r2)) :
    Calls Tryz.prog 41 #[.agg #[.int .u64 a0_0, .bool a0_1, .int .u64 a0_2, .bool a0_3, .int .u64 a0_4, .bool a0_5, .int .u64 a0_6, .bool a0_7, .int .u64 a0_8, .bool a0_9]] w fun e w' => e = .returned (.tuple #[.int .i64 r1, .int .i64 r2]) ∧ Below w.heap.size w w' := by
  have hu26 := Tryz.underlying26
  have hu24 := Tryz.underlying24
  have HB := Aside0.mk (Below.refl w.heap.size w)
  have H : ((complineref19_Fields.f a0_0 a0_1 a0_2 a0_3 a0_4 a0_5 a0_6 a0_7 a0_8 a0_9).bind fun t119 => (complineref19_Check.l0 k t119 0)) = some (r1, r2) := h
  clear h
  replace H := Option.bind_eq_some_iff.mp H
  obtain ⟨t119, A20, H⟩ := H
  replace H : (complineref19_Check.l0 k t119 0) = some (r1, r2) := H
  have A2 := Aside0.mk A20
  clear A20
  have H' := Aside0.mk H
  clear H
  go_enter Tryz.func41, Tryz.ntmps41
  go_wp2_with (first | ((with_reducible refine gate_dst (N := 1) rfl ?_); refine box_event ?hg (N := 1) ?hd (cs := #[.int .u64 a0_0, .bool a0_1, .int .u64 a0_2, .bool a0_3, .int .u64 a0_4, .bool a0_5, .int .u64 a0_6, .bool a0_7, .int .u64 a0_8, .bool a0_9]) (t := 26) ?hr ?_; (case hd => rfl); (case hg => rfl); (case hr => first | (go_simp; done) | (go_simp; rfl)); intro gb118 hg w3 hbox hb; have n0_ := Aside0.mk (below_step (by repeat (first | (with_reducible first | exact HB.out | apply below_alloc | apply pw_below_drewN | apply below_drew1) | exact HB.out)) hb); have n1_ := Aside0.mk (hbox); have n2_ := Aside0.mk ((by rw [hg]; exact (below_size (by repeat (first | (with_reducible first | exact HB.out | apply below_alloc | apply pw_below_drewN | apply below_drew1) | exact HB.out))) : w.heap.size ≤ gb118)); have n3_ := Aside0.mk ((by rw [hg]; exact (below_size (by repeat (first | (with_reducible first | exact HB.out | apply below_alloc | apply pw_below_drewN | apply below_drew1) | exact HB.out))) : w.heap.size ≤ gb118)); clear HB; have HB := n0_; have BK118 := n1_; have GW118 := n2_; have GE118 := n3_; clear n0_ n1_ n2_ n3_; clear hb hbox hg; have hcz4_0 : w3.cell? ⟨gb118, 0, none⟩ = some (.int .u64 a0_0) := (blk_cell BK118.out 0).trans rfl; have hcz4_1 : w3.cell? ⟨gb118, 1, none⟩ = some (.bool a0_1) := (blk_cell BK118.out 1).trans rfl; have hcz4_2 : w3.cell? ⟨gb118, 2, none⟩ = some (.int .u64 a0_2) := (blk_cell BK118.out 2).trans rfl; have hcz4_3 : w3.cell? ⟨gb118, 3, none⟩ = some (.bool a0_3) := (blk_cell BK118.out 3).trans rfl; have hcz4_4 : w3.cell? ⟨gb118, 4, none⟩ = some (.int .u64 a0_4) := (blk_cell BK118.out 4).trans rfl; have hcz4_5 : w3.cell? ⟨gb118, 5, none⟩ = some (.bool a0_5) := (blk_cell BK118.out 5).trans rfl; have hcz4_6 : w3.cell? ⟨gb118, 6, none⟩ = some (.int .u64 a0_6) := (blk_cell BK118.out 6).trans rfl; have hcz4_7 : w3.cell? ⟨gb118, 7, none⟩ = some (.bool a0_7) := (blk_cell BK118.out 7).trans rfl; have hcz4_8 : w3.cell? ⟨gb118, 8, none⟩ = some (.int .u64 a0_8) := (blk_cell BK118.out 8).trans rfl; have hcz4_9 : w3.cell? ⟨gb118, 9, none⟩ = some (.bool a0_9) := (blk_cell BK118.out 9).trans rfl; have hfz4_0 := blk_frozen BK118.out 0; have hfz4_1 := blk_frozen BK118.out 1; have hfz4_2 := blk_frozen BK118.out 2; have hfz4_3 := blk_frozen BK118.out 3; have hfz4_4 := blk_frozen BK118.out 4; have hfz4_5 := blk_frozen BK118.out 5; have hfz4_6 := blk_frozen BK118.out 6; have hfz4_7 := blk_frozen BK118.out 7; have hfz4_8 := blk_frozen BK118.out 8; have hfz4_9 := blk_frozen BK118.out 9) | ((with_reducible refine gate_callee (f := 68) rfl ?_); refine goesL_ (some 8) rfl rfl Tryz.func68 (by kernel_rfl) rfl #[.agg #[.int .u64 a0_0, .bool a0_1, .int .u64 a0_2, .bool a0_3, .int .u64 a0_4, .bool a0_5, .int .u64 a0_6, .bool a0_7, .int .u64 a0_8, .bool a0_9]] rfl (by (try simp only [List.map_toArray, List.map_cons, List.map_nil]); first | done | rfl | (simp only [List.length_drop, List.length_take]; rfl)) ?_; (with_reducible refine (complineref19_Fields.calls a0_0 a0_1 a0_2 a0_3 a0_4 a0_5 a0_6 a0_7 a0_8 a0_9 t119 _ A2.out).mono ?_); rintro e w5 ⟨v120, rfl, ho0, hb⟩; refine ⟨_, rfl, ?_⟩; have n0_ := Aside0.mk (Kd.R_lower ho0 (below_size (by repeat (first | (with_reducible first | exact HB.out | apply below_alloc | apply pw_below_drewN | apply below_drew1 | refine below_set ?_ GE118.out) | exact HB.out)))); have n1_ := Aside0.mk (blk_below (g := gb118) (o := .cells #[.int .u64 a0_0, .bool a0_1, .int .u64 a0_2, .bool a0_3, .int .u64 a0_4, .bool a0_5, .int .u64 a0_6, .bool a0_7, .int .u64 a0_8, .bool a0_9] 26 (0, 0)) (by (with_reducible repeat (first | refine blk_drewN ?_ _ | refine blk_drew ?_ | refine blk_alloc ?_ _)); exact BK118.out) hb); have n2_ := Aside0.mk (below_step (by repeat (first | (with_reducible first | exact HB.out | apply below_alloc | apply pw_below_drewN | apply below_drew1 | refine below_set ?_ GE118.out) | exact HB.out)) hb); clear BK118; clear HB; have HO121 := n0_; have BK118 := n1_; have HB := n2_; clear n0_ n1_ n2_; (try clear hb); (try clear hb2); (try clear hk); (try clear hi); (try clear ho0)))
  go_loopg [5] k (fun kq v5 w' => ∃ (x5_1 : Int), v5 = .int .i64 x5_1 ∧ Aside0 (complineref19_Check.l0 kq t119 x5_1 = some (r1, r2)) ∧ Aside0 (kq ≤ k) ∧ Aside0 (Kd.R k24 24 w' w.heap.size (fun _ => True) v120 t119) ∧ Aside0 (w'.heap[gb118]? = some (.cells #[.int .u64 a0_0, .bool a0_1, .int .u64 a0_2, .bool a0_3, .int .u64 a0_4, .bool a0_5, .int .u64 a0_6, .bool a0_7, .int .u64 a0_8, .bool a0_9] 26 (0, 0))) ∧ Aside0 (Below w.heap.size w w'))
  case atStart => exact ⟨(0), (by first | rfl | (simp; done) | (simp [*]; done)), H', ⟨Nat.le_refl _⟩, ⟨by (with_reducible repeat (first | apply Kd.R_alloc | apply Kd.R_drewN | apply Kd.R_drew)); exact HO121.out⟩, ⟨by (with_reducible repeat (first | refine blk_drewN ?_ _ | refine blk_drew ?_ | refine blk_alloc ?_ _)); exact BK118.out⟩, ⟨by repeat (first | (with_reducible first | exact HB.out | apply below_alloc | apply pw_below_drewN | apply below_drew1 | refine below_set ?_ GE118.out) | exact HB.out)⟩⟩
  case round =>
    clear H'
    try clear p2
    try clear c4
    try clear hcz4_0
    try clear hcz4_1
    try clear hcz4_2
    try clear hcz4_3
    try clear hcz4_4
    try clear hcz4_5
    try clear hcz4_6
    try clear hcz4_7
    try clear hcz4_8
    try clear hcz4_9
    try clear hfz4_0
    try clear hfz4_1
    try clear hfz4_2
    try clear hfz4_3
    try clear hfz4_4
    try clear hfz4_5
    try clear hfz4_6
    try clear hfz4_7
    try clear hfz4_8
    try clear hfz4_9
    obtain ⟨x5_1, rfl, HA, HK1, HO_4, BK118, HB⟩ := hrel
    cases gk with
    | zero => exact absurd HA.out (by simp [complineref19_Check.l0])
    | succ k1 =>
      have H := HA.out
      clear HA
      simp only [complineref19_Check.l0] at H
      by_cases c6 : x5_1 < 5
      · rw [if_pos c6] at H
        have c6b0 : decide (x5_1 < 5) = true := decide_eq_true c6
        clear c6
        by_cases c7 : 0 ≤ x5_1
        · rw [if_pos c7] at H
          have c7b0 : decide (0 ≤ x5_1) = true := decide_eq_true c7
          clear c7
          by_cases c8 : x5_1 < (t119.length : Int)
          · rw [if_pos c8] at H
            have c8b0 : decide (x5_1 < (t119.length : Int)) = true := decide_eq_true c8
            clear c8
            replace H := Option.bind_eq_some_iff.mp H
            obtain ⟨t123, A90, H⟩ := H
            replace H : (if t123 = 0 then (complineref19_Check.l0 k1 t119 (wrap64 (x5_1 + 1))) else (some (wrap64 (x5_1 + 1), t123))) = some (r1, r2) := H
            have A9 := Aside0.mk A90
            clear A90
            by_cases c10 : t123 = 0
            · rw [if_pos c10] at H
              have c10b0 : (t123 == 0) = true := beq_iff_eq.mpr c10
              have c10b1 : (t123 != 0) = false := bne_eq_false_iff_eq.mpr c10
              clear c10
              have H' := Aside0.mk H
              clear H
              obtain ⟨Ao11, co11, eo11⟩ := Kd.R_slice HO_4.out
              subst eo11
              have p122 : 0 ≤ (x5_1 : Int) := of_decide_eq_true (by first | (with_reducible assumption) | assumption)
              have q122 : x5_1 < (t119.length : Int) := of_decide_eq_true (by first | (with_reducible assumption) | assumption)
              obtain ⟨ad122, e122, hx122_0, hx122_1⟩ := at_T24 (Kd.R_reads' HO_4.out).2.2 x5_1 p122 q122
              cases e122
              replace p122 := eq_true p122
              replace q122 := eq_true q122
              go_wp2_with (first | ((with_reducible refine gate_callee (f := 62) rfl ?_); refine goesL_ (some 18) rfl rfl Tryz.func62 (by kernel_rfl) rfl #[.agg #[.int .u64 ((rd_T24 t119 x5_1).f0), .bool ((rd_T24 t119 x5_1).f1)], .int .i64 x5_1] rfl (by (try simp only [List.map_toArray, List.map_cons, List.map_nil]); first | done | rfl | (simp only [List.length_drop, List.length_take]; rfl)) ?_; (with_reducible refine (complineref18_Check.calls k1 ((rd_T24 t119 x5_1).f0) ((rd_T24 t119 x5_1).f1) x5_1 t123 _ A9.out).mono ?_); rintro e w12 ⟨rfl, hb⟩; refine ⟨_, rfl, ?_⟩; have n0_ := Aside0.mk (Kd.R_below (by (with_reducible repeat (first | apply Kd.R_alloc | apply Kd.R_drewN | apply Kd.R_drew)); exact HO_4.out) hb); have n1_ := Aside0.mk (blk_below (g := gb118) (o := .cells #[.int .u64 a0_0, .bool a0_1, .int .u64 a0_2, .bool a0_3, .int .u64 a0_4, .bool a0_5, .int .u64 a0_6, .bool a0_7, .int .u64 a0_8, .bool a0_9] 26 (0, 0)) (by (with_reducible repeat (first | refine blk_drewN ?_ _ | refine blk_drew ?_ | refine blk_alloc ?_ _)); exact BK118.out) hb); have n2_ := Aside0.mk (below_step (by repeat (first | (with_reducible first | exact HB.out | apply below_alloc | apply pw_below_drewN | apply below_drew1 | refine below_set ?_ GE118.out) | exact HB.out)) hb); clear HO_4; clear BK118; clear HB; have HO_4 := n0_; have BK118 := n1_; have HB := n2_; clear n0_ n1_ n2_; (try clear hb); (try clear hb2); (try clear hk); (try clear hi)))
              go_roundg k1
              case measure => have := HK1.out; omega
              case rel => exact ⟨(wrap64 (x5_1 + 1)), (by first | rfl | (simp; done) | (simp [*]; done)), H', ⟨by have := HK1.out; omega⟩, ⟨by (with_reducible repeat (first | apply Kd.R_alloc | apply Kd.R_drewN | apply Kd.R_drew)); exact HO_4.out⟩, ⟨by (with_reducible repeat (first | refine blk_drewN ?_ _ | refine blk_drew ?_ | refine blk_alloc ?_ _)); exact BK118.out⟩, ⟨by repeat (first | (with_reducible first | exact HB.out | apply below_alloc | apply pw_below_drewN | apply below_drew1 | refine below_set ?_ GE118.out) | exact HB.out)⟩⟩
            · rw [if_neg c10] at H
              have c10b0 : (t123 == 0) = false := beq_eq_false_iff_ne.mpr c10
              have c10b1 : (t123 != 0) = true := bne_iff_ne.mpr c10
              simp only [Option.some.injEq, Prod.mk.injEq] at H
              obtain ⟨rfl, rfl⟩ := H
              obtain ⟨Ao13, co13, eo13⟩ := Kd.R_slice HO_4.out
              subst eo13
              have p122 : 0 ≤ (x5_1 : Int) := of_decide_eq_true (by first | (with_reducible assumption) | assumption)
              have q122 : x5_1 < (t119.length : Int) := of_decide_eq_true (by first | (with_reducible assumption) | assumption)
              obtain ⟨ad122, e122, hx122_0, hx122_1⟩ := at_T24 (Kd.R_reads' HO_4.out).2.2 x5_1 p122 q122
              cases e122
              replace p122 := eq_true p122
              replace q122 := eq_true q122
              go_wp2_with (first | ((with_reducible refine gate_callee (f := 62) rfl ?_); refine goesL_ (some 18) rfl rfl Tryz.func62 (by kernel_rfl) rfl #[.agg #[.int .u64 ((rd_T24 t119 x5_1).f0), .bool ((rd_T24 t119 x5_1).f1)], .int .i64 x5_1] rfl (by (try simp only [List.map_toArray, List.map_cons, List.map_nil]); first | done | rfl | (simp only [List.length_drop, List.length_take]; rfl)) ?_; (with_reducible refine (complineref18_Check.calls k1 ((rd_T24 t119 x5_1).f0) ((rd_T24 t119 x5_1).f1) x5_1 t123 _ A9.out).mono ?_); rintro e w14 ⟨rfl, hb⟩; refine ⟨_, rfl, ?_⟩; have n0_ := Aside0.mk (Kd.R_below (by (with_reducible repeat (first | apply Kd.R_alloc | apply Kd.R_drewN | apply Kd.R_drew)); exact HO_4.out) hb); have n1_ := Aside0.mk (blk_below (g := gb118) (o := .cells #[.int .u64 a0_0, .bool a0_1, .int .u64 a0_2, .bool a0_3, .int .u64 a0_4, .bool a0_5, .int .u64 a0_6, .bool a0_7, .int .u64 a0_8, .bool a0_9] 26 (0, 0)) (by (with_reducible repeat (first | refine blk_drewN ?_ _ | refine blk_drew ?_ | refine blk_alloc ?_ _)); exact BK118.out) hb); have n2_ := Aside0.mk (below_step (by repeat (first | (with_reducible first | exact HB.out | apply below_alloc | apply pw_below_drewN | apply below_drew1 | refine below_set ?_ GE118.out) | exact HB.out)) hb); clear HO_4; clear BK118; clear HB; have HO_4 := n0_; have BK118 := n1_; have HB := n2_; clear n0_ n1_ n2_; (try clear hb); (try clear hb2); (try clear hk); (try clear hi)))
              go_ret2
              exact ⟨by first | rfl | (simp [errW_none, errW_some] <;> rfl) | (simp [*, errW_none, errW_some] <;> rfl), by repeat (first | (with_reducible first | exact HB.out | apply below_alloc | apply pw_below_drewN | apply below_drew1 | refine below_set ?_ GE118.out) | exact HB.out)⟩
          · rw [if_neg c8] at H
            exact absurd H (by simp)
        · rw [if_neg c7] at H
          exact absurd H (by simp)
      · rw [if_neg c6] at H
        have c6b0 : decide (x5_1 < 5) = false := decide_eq_false c6
        clear c6
        simp only [Option.some.injEq, Prod.mk.injEq] at H
        obtain ⟨rfl, rfl⟩ := H
        go_wp2
        go_ret2
        exact ⟨by first | rfl | (simp [errW_none, errW_some] <;> rfl) | (simp [*, errW_none, errW_some] <;> rfl), by repeat (first | (with_reducible first | exact HB.out | apply below_alloc | apply pw_below_drewN | apply below_drew1 | refine below_set ?_ GE118.out) | exact HB.out)⟩

end Go.Proofs.YtkdejfedigiohaaGreatDoor.PS
