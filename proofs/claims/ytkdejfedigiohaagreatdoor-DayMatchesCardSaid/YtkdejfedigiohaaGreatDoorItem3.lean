/- (*item).values at an item of two ends. -/
import Derived.Test.YtkdejfedigiohaaGreatDoorItem2
namespace Go.Proofs.YtkdejfedigiohaaGreatDoor
open Go.RowKit Go.Proofs.YtkdejfedigiohaaGreatDoorW.PrintWords Go.Proofs.YtkdejfedigiohaaGreatDoorW.PrintLast Go.Proofs.YtkdejfedigiohaaGreatDoorW.PrintMore
set_option linter.unusedVariables false
set_option linter.unusedSimpArgs false


set_option maxRecDepth 100000 in
set_option maxHeartbeats 2000000 in
theorem values_two (b g : Nat) (t a be e0 e1 : ByteArray) (cut : Bool) (kind v v2 : Int) (W : World) (h0 : 0 ≤ kind) (h1 : kind ≤ 4)
    (hI : ItB W b t a be cut (.slice (some ⟨g, 0, none⟩) 2 2) kind 0 0 0) (hg : W.heap[g]? = some (.cells #[.string e0, .string e1] 9 (0, 0))) (hgb : g ≠ b) (hst : a.toList ≠ [42]) (hv : ValIs e0 kind v) (hv2 : ValIs e1 kind v2) (hord : v ≤ v2) :
    Calls Tryz.prog 74 #[.pointer (some ⟨b, 0, none⟩)] W fun e w' => e = .returned .nilIface ∧ KX b W w'
      ∧ ItB w' b t a be cut (.slice (some ⟨g, 0, none⟩) 2 2) kind v v2 0 := by
  have hI0 := Lib.hid hI
  have hlb := blk_lt hI
  have hlg := blk_lt hg
  have hg0 := Lib.hid hg
  obtain ⟨⟨c0, c1, c2, c3, c4, c5, c6, c7, c8⟩, f0, f1, f2, f3, f4, f5, f6, f7, f8⟩ := hI.cells
  have d0 : W.cell? ⟨g, 0, none⟩ = some (.string e0) := blk_cell hg 0
  have hst' : (a.toList == [42]) = false := by simpa using hst
  have hv := Lib.hid hv
  have hv2 := Lib.hid hv2
  clear hI hst hg
  go_enter Tryz.func74, Tryz.ntmps74
  go_wp2_with fail
  refine (limits_q kind _ h0 h1).mono ?_
  rintro e w1 ⟨rfl, rfl⟩
  go_wp2
  refine wp_loop_rounds 3 ?_
  rw [rounds_succ]
  go_wp2_with fail
  generalize hW : ((W.setCell ⟨b, 6, none⟩ (.int .i64 (lexLo kind))).setCell ⟨b, 7, none⟩ (.int .i64 (lexHi kind))).alloc (.cells #[.int .i64 0, .int .i64 0] 135) = W2
  have hK2 : KX b W W2 := by subst hW; exact ((KX.set _ 6 _).trans (KX.set _ 7 _)).trans (KX.alloc _ _)
  have hI2 : ItB W2 b t a be cut (.slice (some ⟨g, 0, none⟩) 2 2) kind (lexLo kind) (lexHi kind) 0 := by subst hW; exact blk_alloc (blk_put (blk_put hI0.out 6 _ rfl) 7 _ rfl) _
  have hB2 : W2.heap[W.heap.size]? = some (.cells #[.int .i64 0, .int .i64 0] 135 (0, 0)) := by subst hW; exact blk_new2 _ W _ (by simp [World.setCell])
  clear hW c0 c1 c2 c3 c4 c5 c6 c7 c8 f0 f1 f2 f3 f4 f5 f6 f7 f8 d0
  refine (hv.out _).mono ?_
  rintro e w1 ⟨rfl, hb3⟩
  have hK3 := hK2.trans (KX.of hb3)
  have hI3 : ItB w1 b t a be cut (.slice (some ⟨g, 0, none⟩) 2 2) kind (lexLo kind) (lexHi kind) 0 := blk_below hI2 hb3
  have hB3 := blk_below hB2 hb3
  have hlt3 : W.heap.size < w1.heap.size := blk_lt hB3
  clear hI2 hB2 hb3
  obtain ⟨⟨c0, c1, c2, c3, c4, c5, c6, c7, c8⟩, f0, f1, f2, f3, f4, f5, f6, f7, f8⟩ := hI3.cells
  have b0 : w1.cell? ⟨W.heap.size, 0, none⟩ = some (.int .i64 0) := blk_cell hB3 0
  have b1 : w1.cell? ⟨W.heap.size, 1, none⟩ = some (.int .i64 0) := blk_cell hB3 1
  have g0 := blk_frozen hB3 0
  have g1 := blk_frozen hB3 1
  have hI3 := Lib.hid hI3
  have hB3 := Lib.hid hB3
  go_wp2
  rw [rounds_succ]
  have hne : b ≠ W.heap.size := by omega
  have hng : g ≠ W.heap.size := by omega
  have d1 : ((w1.setCell ⟨W.heap.size, 0, none⟩ (.int .i64 v)).setCell ⟨W.heap.size, 1, none⟩ (.int .i64 v)).cell? ⟨g, 1, none⟩ = some (.string e1) :=
    blk_cell (blk_far (blk_far (hK3.blk hg0.out hgb) hng _) hng _) 1
  generalize hW : (w1.setCell ⟨W.heap.size, 0, none⟩ (.int .i64 v)).setCell ⟨W.heap.size, 1, none⟩ (.int .i64 v) = W4 at d1 ⊢
  have hK4 : ∀ k, k < W.heap.size → k ≠ b → W4.heap[k]? = W.heap[k]? := fun k h1 h2 => by
    subst hW
    rw [Below.heap_setCell _ _ _ _ (by show k ≠ W.heap.size; omega), Below.heap_setCell _ _ _ _ (by show k ≠ W.heap.size; omega)]
    exact hK3.block k h1 h2
  have hX4 : KX b W W4 := ⟨by subst hW; exact hK3.os, by subst hW; exact hK3.tape, by subst hW; exact hK3.output, by subst hW; simp only [World.setCell, Array.size_modify]; exact hK3.size, hK4⟩
  have hI4 : ItB W4 b t a be cut (.slice (some ⟨g, 0, none⟩) 2 2) kind (lexLo kind) (lexHi kind) 0 := by subst hW; exact blk_far (blk_far hI3.out hne _) hne _
  have hB4 : W4.heap[W.heap.size]? = some (.cells #[.int .i64 v, .int .i64 v] 135 (0, 0)) := by subst hW; exact blk_put (blk_put hB3.out 0 _ rfl) 1 _ rfl
  clear hW c0 c1 c2 c3 c4 c5 c6 c7 c8 f0 f1 f2 f3 f4 f5 f6 f7 f8 b0 b1 g0 g1 hK4 hK3 hI3 hB3
  obtain ⟨⟨c0, c1, c2, c3, c4, c5, c6, c7, c8⟩, f0, f1, f2, f3, f4, f5, f6, f7, f8⟩ := hI4.cells
  go_wp2_with fail
  refine (hv2.out _).mono ?_
  rintro e w5 ⟨rfl, hb5⟩
  have hX5 := hX4.trans (KX.of hb5)
  have hI5 : ItB w5 b t a be cut (.slice (some ⟨g, 0, none⟩) 2 2) kind (lexLo kind) (lexHi kind) 0 := blk_below hI4 hb5
  have hB5 := blk_below hB4 hb5
  have hlt5 : W.heap.size < w5.heap.size := blk_lt hB5
  clear hI4 hB4 hb5 hX4 c0 c1 c2 c3 c4 c5 c6 c7 c8 f0 f1 f2 f3 f4 f5 f6 f7 f8 d1
  obtain ⟨⟨c0, c1, c2, c3, c4, c5, c6, c7, c8⟩, f0, f1, f2, f3, f4, f5, f6, f7, f8⟩ := hI5.cells
  have b0 : w5.cell? ⟨W.heap.size, 0, none⟩ = some (.int .i64 v) := blk_cell hB5 0
  have b1 : w5.cell? ⟨W.heap.size, 1, none⟩ = some (.int .i64 v) := blk_cell hB5 1
  have g0 := blk_frozen hB5 0
  have g1 := blk_frozen hB5 1
  have hI5 := Lib.hid hI5
  have hB5 := Lib.hid hB5
  go_wp2
  rw [rounds_succ]
  go_wp2
  generalize hW : (w5.setCell ⟨W.heap.size, 1, none⟩ (.int .i64 v2)).setCell ⟨W.heap.size, 1, none⟩ (.int .i64 v2) = W6
  have hK6 : ∀ k, k < W.heap.size → k ≠ b → W6.heap[k]? = W.heap[k]? := fun k h1 h2 => by
    subst hW
    rw [Below.heap_setCell _ _ _ _ (by show k ≠ W.heap.size; omega), Below.heap_setCell _ _ _ _ (by show k ≠ W.heap.size; omega)]
    exact hX5.block k h1 h2
  have hX6 : KX b W W6 := ⟨by subst hW; exact hX5.os, by subst hW; exact hX5.tape, by subst hW; exact hX5.output, by subst hW; simp only [World.setCell, Array.size_modify]; exact hX5.size, hK6⟩
  have hI6 : ItB W6 b t a be cut (.slice (some ⟨g, 0, none⟩) 2 2) kind (lexLo kind) (lexHi kind) 0 := by subst hW; exact blk_far (blk_far hI5.out hne _) hne _
  have hB6 : W6.heap[W.heap.size]? = some (.cells #[.int .i64 v, .int .i64 v2] 135 (0, 0)) := by subst hW; exact blk_put (blk_put hB5.out 1 _ rfl) 1 _ rfl
  clear hW c0 c1 c2 c3 c4 c5 c6 c7 c8 f0 f1 f2 f3 f4 f5 f6 f7 f8 b0 b1 g0 g1 hK6 hX5 hI5 hB5
  obtain ⟨⟨c0, c1, c2, c3, c4, c5, c6, c7, c8⟩, f0, f1, f2, f3, f4, f5, f6, f7, f8⟩ := hI6.cells
  have b0 : W6.cell? ⟨W.heap.size, 0, none⟩ = some (.int .i64 v) := blk_cell hB6 0
  have b1 : W6.cell? ⟨W.heap.size, 1, none⟩ = some (.int .i64 v2) := blk_cell hB6 1
  have hI6 := Lib.hid hI6
  have hB6 := Lib.hid hB6
  go_region
  go_wp2
  generalize hW : ((W6.setCell ⟨b, 6, none⟩ (.int .i64 v)).setCell ⟨b, 7, none⟩ (.int .i64 v2)).drew = W7
  have hX7 : KX b W W7 := by subst hW; exact ((hX6.trans (KX.set _ 6 _)).trans (KX.set _ 7 _)).trans (KX.of (Below.refl _ _).drew)
  have hI7 : ItB W7 b t a be cut (.slice (some ⟨g, 0, none⟩) 2 2) kind v v2 0 := by subst hW; exact blk_drew (blk_put (blk_put hI6.out 6 _ rfl) 7 _ rfl)
  clear hW c0 c1 c2 c3 c4 c5 c6 c7 c8 f0 f1 f2 f3 f4 f5 f6 f7 f8 b0 b1
  obtain ⟨⟨c0, c1, c2, c3, c4, c5, c6, c7, c8⟩, f0, f1, f2, f3, f4, f5, f6, f7, f8⟩ := hI7.cells
  have hI7 := Lib.hid hI7
  have hnl : ¬ v2 < v := by omega
  go_quiet (fail)
  go_wp2
  go_ret
  exact ⟨rfl, hX7.trans (KX.of ((Below.refl _ _).drewN _)), blk_drewN hI7.out _⟩

end Go.Proofs.YtkdejfedigiohaaGreatDoor
