/- An item of a field's text: its ends' values, and its step. -/
import Derived.Test.YtkdejfedigiohaaGreatDoorItem
import Derived.LoopN
namespace Go.Proofs.YtkdejfedigiohaaGreatDoor
open Go.RowKit Go.Proofs.YtkdejfedigiohaaGreatDoorW.PrintWords Go.Proofs.YtkdejfedigiohaaGreatDoorW.PrintLast Go.Proofs.YtkdejfedigiohaaGreatDoorW.PrintMore
set_option linter.unusedVariables false
set_option linter.unusedSimpArgs false


theorem blk_new2 (w w0 : World) (o : Obj) (h : w.heap.size = w0.heap.size) : (w.alloc o).heap[w0.heap.size]? = some o := h ▸ blk_new w o
theorem wrong_ok (w : World) : Calls Tryz.prog 108 #[.int .i64 0] w fun e w' => e = .returned .nilIface ∧ w = w' := by
  go_enter Tryz.func108, Tryz.ntmps108
  go_wp2
  go_ret
  exact ⟨rfl, rfl⟩
/-- s is a value of a kind. -/
def ValIs (s : ByteArray) (kind v : Int) : Prop :=
  ∀ w : World, Calls Tryz.prog 109 #[.string s, .int .i64 kind] w fun e w' => e = .returned (.tuple #[.int .i64 v, .int .i64 0]) ∧ Below w.heap.size w w'

set_option maxRecDepth 100000 in
set_option maxHeartbeats 2000000 in
theorem values_star (b g n : Nat) (t a be : ByteArray) (cut : Bool) (kind : Int) (W : World) (h0 : 0 ≤ kind) (h1 : kind ≤ 4)
    (hI : ItB W b t a be cut (.slice (some ⟨g, 0, none⟩) n n) kind 0 0 0) (hst : a.toList = [42]) :
    Calls Tryz.prog 74 #[.pointer (some ⟨b, 0, none⟩)] W fun e w' => e = .returned .nilIface ∧ KX b W w'
      ∧ ItB w' b t a be cut (.slice (some ⟨g, 0, none⟩) n n) kind (lexLo kind) (lexHi kind) 0 := by
  have hI0 := Lib.hid hI
  obtain ⟨⟨c0, c1, c2, c3, c4, c5, c6, c7, c8⟩, f0, f1, f2, f3, f4, f5, f6, f7, f8⟩ := hI.cells
  have hst' : (a.toList == [42]) = true := by simpa using hst
  clear hI hst
  go_enter Tryz.func74, Tryz.ntmps74
  go_wp2_with fail
  refine (limits_q kind _ h0 h1).mono ?_
  rintro e w1 ⟨rfl, rfl⟩
  go_wp2
  go_ret
  exact ⟨rfl, (KX.set _ 6 _).trans (KX.set _ 7 _), blk_put (blk_put hI0.out 6 _ rfl) 7 _ rfl⟩

set_option maxRecDepth 100000 in
set_option maxHeartbeats 2000000 in
theorem values_one (b g : Nat) (t a be e0 : ByteArray) (cut : Bool) (kind v : Int) (W : World) (h0 : 0 ≤ kind) (h1 : kind ≤ 4)
    (hI : ItB W b t a be cut (.slice (some ⟨g, 0, none⟩) 1 1) kind 0 0 0) (hg : W.heap[g]? = some (.cells #[.string e0] 9 (0, 0))) (hgb : g ≠ b) (hst : a.toList ≠ [42]) (hv : ValIs e0 kind v) :
    Calls Tryz.prog 74 #[.pointer (some ⟨b, 0, none⟩)] W fun e w' => e = .returned .nilIface ∧ KX b W w'
      ∧ ItB w' b t a be cut (.slice (some ⟨g, 0, none⟩) 1 1) kind v v 0 := by
  have hI0 := Lib.hid hI
  have hlb := blk_lt hI
  have hlg := blk_lt hg
  have hg0 := Lib.hid hg
  obtain ⟨⟨c0, c1, c2, c3, c4, c5, c6, c7, c8⟩, f0, f1, f2, f3, f4, f5, f6, f7, f8⟩ := hI.cells
  have d0 : W.cell? ⟨g, 0, none⟩ = some (.string e0) := blk_cell hg 0
  have hst' : (a.toList == [42]) = false := by simpa using hst
  have hv := Lib.hid hv
  clear hI hst hg
  go_enter Tryz.func74, Tryz.ntmps74
  go_wp2_with fail
  refine (limits_q kind _ h0 h1).mono ?_
  rintro e w1 ⟨rfl, rfl⟩
  go_wp2
  refine wp_loop_rounds 2 ?_
  rw [rounds_succ]
  go_wp2_with fail
  generalize hW : ((W.setCell ⟨b, 6, none⟩ (.int .i64 (lexLo kind))).setCell ⟨b, 7, none⟩ (.int .i64 (lexHi kind))).alloc (.cells #[.int .i64 0, .int .i64 0] 135) = W2
  have hK2 : KX b W W2 := by subst hW; exact ((KX.set _ 6 _).trans (KX.set _ 7 _)).trans (KX.alloc _ _)
  have hI2 : ItB W2 b t a be cut (.slice (some ⟨g, 0, none⟩) 1 1) kind (lexLo kind) (lexHi kind) 0 := by subst hW; exact blk_alloc (blk_put (blk_put hI0.out 6 _ rfl) 7 _ rfl) _
  have hB2 : W2.heap[W.heap.size]? = some (.cells #[.int .i64 0, .int .i64 0] 135 (0, 0)) := by subst hW; exact blk_new2 _ W _ (by simp [World.setCell])
  clear hW c0 c1 c2 c3 c4 c5 c6 c7 c8 f0 f1 f2 f3 f4 f5 f6 f7 f8 d0
  refine (hv.out _).mono ?_
  rintro e w1 ⟨rfl, hb3⟩
  have hK3 := hK2.trans (KX.of hb3)
  have hI3 : ItB w1 b t a be cut (.slice (some ⟨g, 0, none⟩) 1 1) kind (lexLo kind) (lexHi kind) 0 := blk_below hI2 hb3
  have hB3 := blk_below hB2 hb3
  have hlt3 : W.heap.size < w1.heap.size := blk_lt hB3
  clear hI2 hB2 hb3
  obtain ⟨⟨c0, c1, c2, c3, c4, c5, c6, c7, c8⟩, f0, f1, f2, f3, f4, f5, f6, f7, f8⟩ := hI3.cells
  have b0 : w1.cell? ⟨W.heap.size, 0, none⟩ = some (.int .i64 0) := blk_cell hB3 0
  have b1 : w1.cell? ⟨W.heap.size, 1, none⟩ = some (.int .i64 0) := blk_cell hB3 1
  have g0 := blk_frozen hB3 0
  have g1 := blk_frozen hB3 1
  have hI3 := Lib.hid hI3
  have hB3 := Lib.hid hB3
  go_wp2
  rw [rounds_succ]
  go_wp2
  generalize hW : (w1.setCell ⟨W.heap.size, 0, none⟩ (.int .i64 v)).setCell ⟨W.heap.size, 1, none⟩ (.int .i64 v) = W4
  have hne : b ≠ W.heap.size := by omega
  have hK4 : ∀ k, k < W.heap.size → k ≠ b → W4.heap[k]? = W.heap[k]? := fun k h1 h2 => by
    subst hW
    rw [Below.heap_setCell _ _ _ _ (by show k ≠ W.heap.size; omega), Below.heap_setCell _ _ _ _ (by show k ≠ W.heap.size; omega)]
    exact hK3.block k h1 h2
  have hX4 : KX b W W4 := ⟨by subst hW; exact hK3.os, by subst hW; exact hK3.tape, by subst hW; exact hK3.output, by subst hW; simp only [World.setCell, Array.size_modify]; exact hK3.size, hK4⟩
  have hI4 : ItB W4 b t a be cut (.slice (some ⟨g, 0, none⟩) 1 1) kind (lexLo kind) (lexHi kind) 0 := by subst hW; exact blk_far (blk_far hI3.out hne _) hne _
  have hB4 : W4.heap[W.heap.size]? = some (.cells #[.int .i64 v, .int .i64 v] 135 (0, 0)) := by subst hW; exact blk_put (blk_put hB3.out 0 _ rfl) 1 _ rfl
  clear hW c0 c1 c2 c3 c4 c5 c6 c7 c8 f0 f1 f2 f3 f4 f5 f6 f7 f8 b0 b1 g0 g1 hK4
  obtain ⟨⟨c0, c1, c2, c3, c4, c5, c6, c7, c8⟩, f0, f1, f2, f3, f4, f5, f6, f7, f8⟩ := hI4.cells
  have b0 : W4.cell? ⟨W.heap.size, 0, none⟩ = some (.int .i64 v) := blk_cell hB4 0
  have b1 : W4.cell? ⟨W.heap.size, 1, none⟩ = some (.int .i64 v) := blk_cell hB4 1
  have hI4 := Lib.hid hI4
  have hB4 := Lib.hid hB4
  go_region
  go_wp2
  generalize hW : ((W4.setCell ⟨b, 6, none⟩ (.int .i64 v)).setCell ⟨b, 7, none⟩ (.int .i64 v)).drew = W5
  have hX5 : KX b W W5 := by subst hW; exact ((hX4.trans (KX.set _ 6 _)).trans (KX.set _ 7 _)).trans (KX.of (Below.refl _ _).drew)
  have hI5 : ItB W5 b t a be cut (.slice (some ⟨g, 0, none⟩) 1 1) kind v v 0 := by subst hW; exact blk_drew (blk_put (blk_put hI4.out 6 _ rfl) 7 _ rfl)
  clear hW c0 c1 c2 c3 c4 c5 c6 c7 c8 f0 f1 f2 f3 f4 f5 f6 f7 f8 b0 b1
  obtain ⟨⟨c0, c1, c2, c3, c4, c5, c6, c7, c8⟩, f0, f1, f2, f3, f4, f5, f6, f7, f8⟩ := hI5.cells
  have hI5 := Lib.hid hI5
  go_quiet (fail)
  go_wp2
  go_ret
  exact ⟨rfl, hX5.trans (KX.of ((Below.refl _ _).drewN _)), blk_drewN hI5.out _⟩

set_option maxRecDepth 100000 in
set_option maxHeartbeats 2000000 in
theorem step_plain (b : Nat) (t a be : ByteArray) (ends : Value) (kind lo hi : Int) (W : World) (hI : ItB W b t a be false ends kind lo hi 0) :
    Calls Tryz.prog 75 #[.pointer (some ⟨b, 0, none⟩)] W fun e w' => e = .returned .nilIface ∧ KX b W w' ∧ ItB w' b t a be false ends kind lo hi 1 := by
  have hI0 := Lib.hid hI
  obtain ⟨⟨c0, c1, c2, c3, c4, c5, c6, c7, c8⟩, f0, f1, f2, f3, f4, f5, f6, f7, f8⟩ := hI.cells
  clear hI
  go_enter Tryz.func75, Tryz.ntmps75
  go_wp2
  go_ret
  exact ⟨rfl, KX.set _ 8 _, blk_put hI0.out 8 _ rfl⟩

set_option maxRecDepth 100000 in
set_option maxHeartbeats 2000000 in
theorem step_cut (b : Nat) (t a be : ByteArray) (ends : Value) (kind lo hi n : Int) (W : World) (hI : ItB W b t a be true ends kind lo hi 0) (hn : numL be.data.toList = (n, 0)) (hn0 : n ≠ 0) :
    Calls Tryz.prog 75 #[.pointer (some ⟨b, 0, none⟩)] W fun e w' => e = .returned .nilIface ∧ KX b W w' ∧ ItB w' b t a be true ends kind lo hi n := by
  have hI0 := Lib.hid hI
  have hlb := blk_lt hI
  obtain ⟨⟨c0, c1, c2, c3, c4, c5, c6, c7, c8⟩, f0, f1, f2, f3, f4, f5, f6, f7, f8⟩ := hI.cells
  have hnum := number_any be
  rw [hn] at hnum
  have hnum := fun w => Lib.hid (hnum w)
  have hb0 : (n == 0) = false := by simpa using hn0
  clear hI hn hn0
  go_enter Tryz.func75, Tryz.ntmps75
  go_wp2_with fail
  generalize hW : W.setCell ⟨b, 8, none⟩ (.int .i64 1) = W2
  have hK2 : KX b W W2 := by subst hW; exact KX.set _ 8 _
  have hI2 : ItB W2 b t a be true ends kind lo hi 1 := by subst hW; exact blk_put hI0.out 8 _ rfl
  clear hW c0 c1 c2 c3 c4 c5 c6 c7 c8 f0 f1 f2 f3 f4 f5 f6 f7 f8
  refine (hnum _).out.mono ?_
  rintro e w1 ⟨rfl, hb⟩
  have hK3 := hK2.trans (KX.of hb)
  have hI3 : ItB w1 b t a be true ends kind lo hi 1 := blk_below hI2 hb
  clear hb hI2
  obtain ⟨⟨c0, c1, c2, c3, c4, c5, c6, c7, c8⟩, f0, f1, f2, f3, f4, f5, f6, f7, f8⟩ := hI3.cells
  have hI3 := Lib.hid hI3
  have hw := wrong_ok
  go_wp2_with fail
  generalize hW : w1.setCell ⟨b, 8, none⟩ (.int .i64 n) = W4
  have hK4 : KX b W W4 := by subst hW; exact hK3.trans (KX.set _ 8 _)
  have hI4 : ItB W4 b t a be true ends kind lo hi n := by subst hW; exact blk_put hI3.out 8 _ rfl
  clear hW c0 c1 c2 c3 c4 c5 c6 c7 c8 f0 f1 f2 f3 f4 f5 f6 f7 f8
  refine (hw _).mono ?_
  rintro e w1 ⟨rfl, rfl⟩
  have hI4 := Lib.hid hI4
  go_wp2
  go_ret
  exact ⟨rfl, hK4, hI4.out⟩

end Go.Proofs.YtkdejfedigiohaaGreatDoor
