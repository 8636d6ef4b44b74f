/- The day layer's functions, to the top: Mask. -/
import Derived.Test.YtkdejfedigiohaaGreatDoorDayP
namespace Go.Proofs.YtkdejfedigiohaaGreatDoor
open Go.RowKit Go.Proofs.YtkdejfedigiohaaGreatDoorW.PrintWords Go.Proofs.YtkdejfedigiohaaGreatDoorW.PrintLast Go.Proofs.YtkdejfedigiohaaGreatDoorW.PrintMore
set_option linter.unusedVariables false
set_option linter.unusedSimpArgs false


/-- A month that the calendar has. -/
def MonthOk (y m : Int) : Prop := 1970 ≤ y ∧ y ≤ 2999 ∧ 1 ≤ m ∧ m ≤ 12
/-- The first day of a month. -/
def firstI (y m : Int) : Int := aheadI y + goneI y m
/-- Which days of a month match. -/
def maskI (x : Sp) (y m : Int) : Nat := if hasB x.n.b m = true then maskN x (weekI (firstI y m)) (lenI y m).toNat else 0

theorem lenI_pos (y m : Int) (h1 : 1 ≤ m) (h2 : m ≤ 12) : 28 ≤ lenI y m := by
  unfold lenI len12; rw [if_neg (by omega)]; split
  · omega
  · split
    · omega
    · split <;> omega
theorem firstI_bd (y m : Int) (h : MonthOk y m) : 0 ≤ firstI y m ∧ firstI y m + lenI y m ≤ 376200 := by
  obtain ⟨a, b, c, d⟩ := h
  have e1 := aheadI_bd y a (by omega)
  have e2 := aheadI_bd (y + 1) (by omega) (by omega)
  have e3 := ahead_step y
  have e4 := goneI_bd y m c (by omega)
  have e5 := goneI_next y m c
  have e6 := goneI_mono y (m + 1) 13 (by omega)
  have e7 := goneI_13 y
  unfold firstI
  omega

set_option maxRecDepth 100000 in
set_option maxHeartbeats 2000000 in
theorem mask1_no (x : Sp) (bx bm by_ : Nat) (y m : Int) (W : World) (hy : W.cell? ⟨by_, 0, none⟩ = some (.int .i64 y)) (hm : W.cell? ⟨bm, 0, none⟩ = some (.int .i64 m)) (h : ¬ MonthOk y m) :
    Calls Tryz.prog 51 #[.pointer (some ⟨by_, 0, none⟩), .pointer (some ⟨bm, 0, none⟩), .pointer (some ⟨bx, 0, none⟩)] W
      fun e w' => e = .returned (.tuple #[.int .u32 0, .int .i64 1]) ∧ Below W.heap.size W w' := by
  have hd := fun w => Lib.hid (day_no y m 1 w (fun k => h ⟨k.1, k.2.1, by
    obtain ⟨_, _, _, k⟩ := k
    unfold lenI at k; split at k <;> omega⟩))
  clear h
  go_enter Tryz.func51, Tryz.ntmps51
  go_wp2_with fail
  refine (hd _).out.mono ?_
  rintro e w1 ⟨rfl, rfl⟩
  go_wp2_with fail
  refine (unlessU_yes _ _ _).mono ?_
  rintro e w3 ⟨rfl, rfl⟩
  go_wp2
  go_ret2
  exact ⟨rfl, by (repeat' (first | (with_reducible assumption) | (with_reducible refine Below.setCell ?_ ?_ _) | (with_reducible refine Below.alloc ?_ ?_ _) | (with_reducible refine Below.drew ?_) | (with_reducible refine Below.drewN ?_ _) | (with_reducible exact Below.refl _ _) | (with_reducible exact Nat.le_refl _) | omega | (dsimp only; omega) | (simp; done) | (simp; omega)))⟩

set_option maxRecDepth 100000 in
set_option maxHeartbeats 2000000 in
theorem mask1_ok (x : Sp) (bx bm by_ : Nat) (y m : Int) (W : World) (hx : x.Ok) (hS : SpIn W bx x) (hy : W.cell? ⟨by_, 0, none⟩ = some (.int .i64 y)) (hm : W.cell? ⟨bm, 0, none⟩ = some (.int .i64 m)) (h : MonthOk y m) :
    Calls Tryz.prog 51 #[.pointer (some ⟨by_, 0, none⟩), .pointer (some ⟨bm, 0, none⟩), .pointer (some ⟨bx, 0, none⟩)] W
      fun e w' => e = .returned (.tuple #[.int .u32 (maskI x y m), .int .i64 0]) ∧ Below W.heap.size W w' := by
  have hf := firstI_bd y m h
  have hl := lenI_pos y m h.2.2.1 h.2.2.2
  have hd := fun w => day_ok y m 1 w h.1 h.2.1 (by omega) (by omega)
  rw [show aheadI y + goneI y m + 1 - 1 = firstI y m by unfold firstI; omega] at hd
  have hd := fun w => Lib.hid (hd w)
  have hltS := hS.lt
  have ltm := World.block_lt_of_cell? _ _ hm
  have lty := World.block_lt_of_cell? _ _ hy
  clear h
  go_enter Tryz.func51, Tryz.ntmps51
  go_wp2_with fail
  refine (hd _).out.mono ?_
  rintro e w1 ⟨rfl, rfl⟩
  go_wp2_with fail
  generalize hW : W.alloc (.cells #[.int .i64 (firstI y m)] 3) = W2
  have hb2 : Below W.heap.size W W2 := by subst hW; exact (Below.refl _ _).alloc (Nat.le_refl _) _
  have hf2 : W2.cell? ⟨W.heap.size, 0, none⟩ = some (.int .i64 (firstI y m)) := by subst hW; go_simp
  have hy2 := (hb2.cell (p := ⟨by_, 0, none⟩) lty).trans hy
  have hm2 := (hb2.cell (p := ⟨bm, 0, none⟩) ltm).trans hm
  have hS2 := hS.below hb2 hltS
  clear hW
  refine (unlessU_no 1 _ _ (maskI x y m) 0 _ (fun w' => Below W2.heap.size W2 w') eg_mk11 (by
    unfold maskI
    cases q : hasB x.n.b m
    · exact mask11_no x bx bm W.heap.size by_ y m (firstI y m) W2 hx hS2 hm2 q
    · exact mask11_yes x bx bm W.heap.size by_ y m (firstI y m) W2 hx (by omega) (by omega) hS2 hm2 hf2 hy2 q)).mono ?_
  rintro e w3 ⟨rfl, hb3⟩
  go_wp2
  go_ret2
  exact ⟨rfl, hb2.trans (hb3.mono hb2.size)⟩

set_option maxRecDepth 100000 in
set_option maxHeartbeats 2000000 in
theorem mask_bad (x : Sp) (y m : Int) (w : World) (hx : x.Ok) (hk : (spChk x).2 ≠ 0) :
    Calls Tryz.prog 20 #[.agg #[.int .u64 x.m.b, .bool x.m.s, .int .u64 x.h.b, .bool x.h.s, .int .u64 x.d.b, .bool x.d.s, .int .u64 x.n.b, .bool x.n.s, .int .u64 x.w.b, .bool x.w.s], .int .i64 y, .int .i64 m] w fun e w' => e = .returned (.tuple #[.int .u32 0, .int .i64 2]) ∧ Below w.heap.size w w' := by
  have ho := odd_any x
  rw [show ((spChk x).2 != 0) = true by simp [hk]] at ho
  have ho := fun w => Lib.hid (ho w hx)
  clear hk
  go_enter Tryz.func20, Tryz.ntmps20
  go_wp2_with fail
  refine (ho _).out.mono ?_
  rintro e w1 ⟨rfl, hb⟩
  go_wp2_with fail
  refine (unlessU_yes _ _ _).mono ?_
  rintro e w3 ⟨rfl, rfl⟩
  go_wp2
  go_ret2
  exact ⟨rfl, ((((Below.refl _ _).alloc (Nat.le_refl _) _).alloc (by simp) _).alloc (by simp; omega) _).trans (hb.mono (by simp; omega))⟩

set_option maxRecDepth 100000 in
set_option maxHeartbeats 2000000 in
theorem mask_good (x : Sp) (y m : Int) (w : World) (a : Nat) (b : Int) (hx : x.Ok) (hk : (spChk x).2 = 0)
    (h : ∀ (W : World) (bx bm by_ : Nat), SpIn W bx x → W.cell? ⟨by_, 0, none⟩ = some (.int .i64 y) → W.cell? ⟨bm, 0, none⟩ = some (.int .i64 m) →
      Calls Tryz.prog 51 #[.pointer (some ⟨by_, 0, none⟩), .pointer (some ⟨bm, 0, none⟩), .pointer (some ⟨bx, 0, none⟩)] W
      fun e w' => e = .returned (.tuple #[.int .u32 a, .int .i64 b]) ∧ Below W.heap.size W w') :
    Calls Tryz.prog 20 #[.agg #[.int .u64 x.m.b, .bool x.m.s, .int .u64 x.h.b, .bool x.h.s, .int .u64 x.d.b, .bool x.d.s, .int .u64 x.n.b, .bool x.n.s, .int .u64 x.w.b, .bool x.w.s], .int .i64 y, .int .i64 m] w fun e w' => e = .returned (.tuple #[.int .u32 a, .int .i64 b]) ∧ Below w.heap.size w w' := by
  have ho := odd_any x
  rw [show ((spChk x).2 != 0) = false by simp [hk]] at ho
  have ho := fun w => Lib.hid (ho w hx)
  have h := Lib.hid h
  clear hk
  go_enter Tryz.func20, Tryz.ntmps20
  go_wp2_with fail
  generalize hW : ((w.alloc (.cells #[.int .u64 x.m.b, .bool x.m.s, .int .u64 x.h.b, .bool x.h.s, .int .u64 x.d.b, .bool x.d.s, .int .u64 x.n.b, .bool x.n.s, .int .u64 x.w.b, .bool x.w.s] 26)).alloc (.cells #[.int .i64 y] 3)).alloc (.cells #[.int .i64 m] 3) = W0
  have hb0 : Below w.heap.size w W0 := by subst hW; exact (((Below.refl _ _).alloc (Nat.le_refl _) _).alloc (by simp) _).alloc (by simp; omega) _
  have hS : SpIn W0 w.heap.size x := by subst hW; unfold SpIn; go_simp
  have hy : W0.cell? ⟨w.heap.size + 1, 0, none⟩ = some (.int .i64 y) := by subst hW; go_simp
  have hm : W0.cell? ⟨w.heap.size + 1 + 1, 0, none⟩ = some (.int .i64 m) := by subst hW; go_simp
  have hlt : w.heap.size + 1 + 1 < W0.heap.size := World.block_lt_of_cell? _ _ hm
  clear hW
  refine (ho _).out.mono ?_
  rintro e w1 ⟨rfl, hb⟩
  have hy1 := (hb.cell (p := ⟨w.heap.size + 1, 0, none⟩) (show w.heap.size + 1 < W0.heap.size by omega)).trans hy
  have hm1 := (hb.cell (p := ⟨w.heap.size + 1 + 1, 0, none⟩) hlt).trans hm
  have hS1 := hS.below hb (by omega)
  go_wp2_with fail
  refine (unlessU_no 2 _ _ a b _ (fun w' => Below w1.heap.size w1 w') eg_mk1 (h.out _ _ _ _ hS1 hy1 hm1)).mono ?_
  rintro e w3 ⟨rfl, hb3⟩
  go_wp2
  go_ret2
  exact ⟨rfl, (hb0.trans (hb.mono hb0.size)).trans (hb3.mono (Nat.le_trans hb0.size hb.size))⟩

theorem mask_no (x : Sp) (y m : Int) (w : World) (hx : x.Ok) (hk : (spChk x).2 = 0) (h : ¬ MonthOk y m) :
    Calls Tryz.prog 20 #[.agg #[.int .u64 x.m.b, .bool x.m.s, .int .u64 x.h.b, .bool x.h.s, .int .u64 x.d.b, .bool x.d.s, .int .u64 x.n.b, .bool x.n.s, .int .u64 x.w.b, .bool x.w.s], .int .i64 y, .int .i64 m] w fun e w' => e = .returned (.tuple #[.int .u32 0, .int .i64 1]) ∧ Below w.heap.size w w' :=
  mask_good x y m w 0 1 hx hk (fun W bx bm by_ _ hy hm => mask1_no x bx bm by_ y m W hy hm h)
theorem mask_ok (x : Sp) (y m : Int) (w : World) (hx : x.Ok) (hk : (spChk x).2 = 0) (h : MonthOk y m) :
    Calls Tryz.prog 20 #[.agg #[.int .u64 x.m.b, .bool x.m.s, .int .u64 x.h.b, .bool x.h.s, .int .u64 x.d.b, .bool x.d.s, .int .u64 x.n.b, .bool x.n.s, .int .u64 x.w.b, .bool x.w.s], .int .i64 y, .int .i64 m] w fun e w' => e = .returned (.tuple #[.int .u32 (maskI x y m), .int .i64 0]) ∧ Below w.heap.size w w' :=
  mask_good x y m w (maskI x y m) 0 hx hk (fun W bx bm by_ hS hy hm => mask1_ok x bx bm by_ y m W hx hS hy hm h)

end Go.Proofs.YtkdejfedigiohaaGreatDoor
