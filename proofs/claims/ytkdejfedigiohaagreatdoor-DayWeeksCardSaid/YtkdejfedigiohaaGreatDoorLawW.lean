/- complinelaw21.DayWeeks: the walk, and why it holds. -/
import Derived.Test.YtkdejfedigiohaaGreatDoorLawM
namespace Go.Proofs.YtkdejfedigiohaaGreatDoor
open Go.RowKit Go.Proofs.YtkdejfedigiohaaGreatDoorW.PrintWords Go.Proofs.YtkdejfedigiohaaGreatDoorW.PrintLast Go.Proofs.YtkdejfedigiohaaGreatDoorW.PrintMore
set_option linter.unusedVariables false
set_option linter.unusedSimpArgs false

open Go.Proofs.YtkdejfedigiohaaGreatDoor.PR

theorem week_bit (x : Sp) (y m d : Int) (hk : (spChk x).2 = 0) (hs : x.d.s = true) (h0 : 1 ≤ d) (h1 : d ≤ 24) : dayBit x y m (d + 7) = dayBit x y m d := by
  have e : weekI (firstI y m + (d + 7) - 1) = weekI (firstI y m + d - 1) := by unfold weekI; omega
  have hl : starless x = false := by unfold starless; rw [hs]; rfl
  unfold dayBit dayOn
  rw [e, hl]
  simp only [Bool.false_eq_true, if_false]
  unfold dayAnd
  rw [star_d x hk hs d h0 (by omega), star_d x hk hs (d + 7) (by omega) (by omega)]

set_option maxRecDepth 100000 in
set_option maxHeartbeats 2000000 in
theorem weeks_off (x : Sp) (y m d er : Int) (w : World) (hE : Env w) (h8 : 8 ≤ w.heap.size) (her : (er != 0) = true)
    (hm : ∀ W, Calls Tryz.prog 20 #[.agg #[.int .u64 x.m.b, .bool x.m.s, .int .u64 x.h.b, .bool x.h.s, .int .u64 x.d.b, .bool x.d.s, .int .u64 x.n.b, .bool x.n.s, .int .u64 x.w.b, .bool x.w.s], .int .i64 y, .int .i64 m] W fun e w' => e = .returned (.tuple #[.int .u32 0, .int .i64 er]) ∧ Below W.heap.size W w') :
    Calls Tryz.prog 6 #[.agg #[.int .u64 x.m.b, .bool x.m.s, .int .u64 x.h.b, .bool x.h.s, .int .u64 x.d.b, .bool x.d.s, .int .u64 x.n.b, .bool x.n.s, .int .u64 x.w.b, .bool x.w.s], .int .i64 y, .int .i64 m, .int .i64 d] w fun e w' => e = .returned (.bool true) ∧ Below w.heap.size w w' := by
  have hm := fun W => Lib.hid (hm W)
  go_enter Tryz.func6, Tryz.ntmps6
  go_wp2_with fail
  have hb0 : Below w.heap.size w (w.alloc (.cells #[.int .u64 x.m.b, .bool x.m.s, .int .u64 x.h.b, .bool x.h.s, .int .u64 x.d.b, .bool x.d.s, .int .u64 x.n.b, .bool x.n.s, .int .u64 x.w.b, .bool x.w.s] 26)) := (Below.refl _ _).alloc (Nat.le_refl _) _
  refine (works_ok _ (hE.below hb0) (Nat.le_trans h8 hb0.size)).mono ?_
  rintro e w1 ⟨rfl, hb⟩
  have hX := blk_below (boxed w x) hb
  have hB := hb0.trans (hb.mono hb0.size)
  clear hb hb0
  obtain ⟨c0, c1, c2, c3, c4, c5, c6, c7, c8, c9⟩ := SpB.spIn (x := x) hX
  go_wp2_with fail
  refine (hm _).out.mono ?_
  rintro e w2 ⟨rfl, hb⟩
  have hB2 := hB.trans (hb.mono hB.size)
  have hX2 := blk_below hX hb
  clear c0 c1 c2 c3 c4 c5 c6 c7 c8 c9 hX hB hb
  go_wp2
  go_ret
  exact ⟨rfl, hB2⟩

set_option maxRecDepth 100000 in
set_option maxHeartbeats 2000000 in
theorem weeks_st (x : Sp) (y m d : Int) (w : World) (hE : Env w) (h8 : 8 ≤ w.heap.size) (hs : x.d.s = false)
    (hm : ∀ W, Calls Tryz.prog 20 #[.agg #[.int .u64 x.m.b, .bool x.m.s, .int .u64 x.h.b, .bool x.h.s, .int .u64 x.d.b, .bool x.d.s, .int .u64 x.n.b, .bool x.n.s, .int .u64 x.w.b, .bool x.w.s], .int .i64 y, .int .i64 m] W fun e w' => e = .returned (.tuple #[.int .u32 (maskI x y m), .int .i64 0]) ∧ Below W.heap.size W w') :
    Calls Tryz.prog 6 #[.agg #[.int .u64 x.m.b, .bool x.m.s, .int .u64 x.h.b, .bool x.h.s, .int .u64 x.d.b, .bool x.d.s, .int .u64 x.n.b, .bool x.n.s, .int .u64 x.w.b, .bool x.w.s], .int .i64 y, .int .i64 m, .int .i64 d] w fun e w' => e = .returned (.bool true) ∧ Below w.heap.size w w' := by
  have hm := fun W => Lib.hid (hm W)
  have hsH := Lib.hid hs
  clear hs
  go_enter Tryz.func6, Tryz.ntmps6
  go_wp2_with fail
  have hb0 : Below w.heap.size w (w.alloc (.cells #[.int .u64 x.m.b, .bool x.m.s, .int .u64 x.h.b, .bool x.h.s, .int .u64 x.d.b, .bool x.d.s, .int .u64 x.n.b, .bool x.n.s, .int .u64 x.w.b, .bool x.w.s] 26)) := (Below.refl _ _).alloc (Nat.le_refl _) _
  refine (works_ok _ (hE.below hb0) (Nat.le_trans h8 hb0.size)).mono ?_
  rintro e w1 ⟨rfl, hb⟩
  have hX := blk_below (boxed w x) hb
  have hB := hb0.trans (hb.mono hb0.size)
  clear hb hb0
  obtain ⟨c0, c1, c2, c3, c4, c5, c6, c7, c8, c9⟩ := SpB.spIn (x := x) hX
  go_wp2_with fail
  refine (hm _).out.mono ?_
  rintro e w2 ⟨rfl, hb⟩
  have hB2 := hB.trans (hb.mono hB.size)
  have hX2 := blk_below hX hb
  clear c0 c1 c2 c3 c4 c5 c6 c7 c8 c9 hX hB hb
  rw [hsH.out] at hX2
  obtain ⟨c0, c1, c2, c3, c4, c5, c6, c7, c8, c9⟩ := SpB.spIn (x := { x with d := ⟨x.d.b, false⟩ }) hX2
  go_wp2
  go_ret
  exact ⟨rfl, hB2⟩

set_option maxRecDepth 100000 in
set_option maxHeartbeats 2000000 in
theorem weeks_lo (x : Sp) (y m d : Int) (w : World) (hE : Env w) (h8 : 8 ≤ w.heap.size) (hs : x.d.s = true) (hd : d < 1)
    (hm : ∀ W, Calls Tryz.prog 20 #[.agg #[.int .u64 x.m.b, .bool x.m.s, .int .u64 x.h.b, .bool x.h.s, .int .u64 x.d.b, .bool x.d.s, .int .u64 x.n.b, .bool x.n.s, .int .u64 x.w.b, .bool x.w.s], .int .i64 y, .int .i64 m] W fun e w' => e = .returned (.tuple #[.int .u32 (maskI x y m), .int .i64 0]) ∧ Below W.heap.size W w') :
    Calls Tryz.prog 6 #[.agg #[.int .u64 x.m.b, .bool x.m.s, .int .u64 x.h.b, .bool x.h.s, .int .u64 x.d.b, .bool x.d.s, .int .u64 x.n.b, .bool x.n.s, .int .u64 x.w.b, .bool x.w.s], .int .i64 y, .int .i64 m, .int .i64 d] w fun e w' => e = .returned (.bool true) ∧ Below w.heap.size w w' := by
  have hm := fun W => Lib.hid (hm W)
  have hsH := Lib.hid hs
  clear hs
  go_enter Tryz.func6, Tryz.ntmps6
  go_wp2_with fail
  have hb0 : Below w.heap.size w (w.alloc (.cells #[.int .u64 x.m.b, .bool x.m.s, .int .u64 x.h.b, .bool x.h.s, .int .u64 x.d.b, .bool x.d.s, .int .u64 x.n.b, .bool x.n.s, .int .u64 x.w.b, .bool x.w.s] 26)) := (Below.refl _ _).alloc (Nat.le_refl _) _
  refine (works_ok _ (hE.below hb0) (Nat.le_trans h8 hb0.size)).mono ?_
  rintro e w1 ⟨rfl, hb⟩
  have hX := blk_below (boxed w x) hb
  have hB := hb0.trans (hb.mono hb0.size)
  clear hb hb0
  obtain ⟨c0, c1, c2, c3, c4, c5, c6, c7, c8, c9⟩ := SpB.spIn (x := x) hX
  go_wp2_with fail
  refine (hm _).out.mono ?_
  rintro e w2 ⟨rfl, hb⟩
  have hB2 := hB.trans (hb.mono hB.size)
  have hX2 := blk_below hX hb
  clear c0 c1 c2 c3 c4 c5 c6 c7 c8 c9 hX hB hb
  rw [hsH.out] at hX2
  obtain ⟨c0, c1, c2, c3, c4, c5, c6, c7, c8, c9⟩ := SpB.spIn (x := { x with d := ⟨x.d.b, true⟩ }) hX2
  go_wp2
  go_ret
  exact ⟨rfl, hB2⟩

set_option maxRecDepth 100000 in
set_option maxHeartbeats 2000000 in
theorem weeks_hi (x : Sp) (y m d : Int) (w : World) (hE : Env w) (h8 : 8 ≤ w.heap.size) (hs : x.d.s = true) (h0 : 1 ≤ d) (hd : 24 < d)
    (hm : ∀ W, Calls Tryz.prog 20 #[.agg #[.int .u64 x.m.b, .bool x.m.s, .int .u64 x.h.b, .bool x.h.s, .int .u64 x.d.b, .bool x.d.s, .int .u64 x.n.b, .bool x.n.s, .int .u64 x.w.b, .bool x.w.s], .int .i64 y, .int .i64 m] W fun e w' => e = .returned (.tuple #[.int .u32 (maskI x y m), .int .i64 0]) ∧ Below W.heap.size W w') :
    Calls Tryz.prog 6 #[.agg #[.int .u64 x.m.b, .bool x.m.s, .int .u64 x.h.b, .bool x.h.s, .int .u64 x.d.b, .bool x.d.s, .int .u64 x.n.b, .bool x.n.s, .int .u64 x.w.b, .bool x.w.s], .int .i64 y, .int .i64 m, .int .i64 d] w fun e w' => e = .returned (.bool true) ∧ Below w.heap.size w w' := by
  have hm := fun W => Lib.hid (hm W)
  have hsH := Lib.hid hs
  clear hs
  go_enter Tryz.func6, Tryz.ntmps6
  go_wp2_with fail
  have hb0 : Below w.heap.size w (w.alloc (.cells #[.int .u64 x.m.b, .bool x.m.s, .int .u64 x.h.b, .bool x.h.s, .int .u64 x.d.b, .bool x.d.s, .int .u64 x.n.b, .bool x.n.s, .int .u64 x.w.b, .bool x.w.s] 26)) := (Below.refl _ _).alloc (Nat.le_refl _) _
  refine (works_ok _ (hE.below hb0) (Nat.le_trans h8 hb0.size)).mono ?_
  rintro e w1 ⟨rfl, hb⟩
  have hX := blk_below (boxed w x) hb
  have hB := hb0.trans (hb.mono hb0.size)
  clear hb hb0
  obtain ⟨c0, c1, c2, c3, c4, c5, c6, c7, c8, c9⟩ := SpB.spIn (x := x) hX
  go_wp2_with fail
  refine (hm _).out.mono ?_
  rintro e w2 ⟨rfl, hb⟩
  have hB2 := hB.trans (hb.mono hB.size)
  have hX2 := blk_below hX hb
  clear c0 c1 c2 c3 c4 c5 c6 c7 c8 c9 hX hB hb
  rw [hsH.out] at hX2
  obtain ⟨c0, c1, c2, c3, c4, c5, c6, c7, c8, c9⟩ := SpB.spIn (x := { x with d := ⟨x.d.b, true⟩ }) hX2
  go_wp2
  go_ret
  exact ⟨rfl, hB2⟩

set_option maxRecDepth 100000 in
set_option maxHeartbeats 2000000 in
theorem weeks_far (x : Sp) (y m d : Int) (w : World) (hE : Env w) (h8 : 8 ≤ w.heap.size) (hs : x.d.s = true) (h0 : 1 ≤ d) (h1 : d ≤ 24) (hd : lenI y m < d + 7)
    (hm : ∀ W, Calls Tryz.prog 20 #[.agg #[.int .u64 x.m.b, .bool x.m.s, .int .u64 x.h.b, .bool x.h.s, .int .u64 x.d.b, .bool x.d.s, .int .u64 x.n.b, .bool x.n.s, .int .u64 x.w.b, .bool x.w.s], .int .i64 y, .int .i64 m] W fun e w' => e = .returned (.tuple #[.int .u32 (maskI x y m), .int .i64 0]) ∧ Below W.heap.size W w') :
    Calls Tryz.prog 6 #[.agg #[.int .u64 x.m.b, .bool x.m.s, .int .u64 x.h.b, .bool x.h.s, .int .u64 x.d.b, .bool x.d.s, .int .u64 x.n.b, .bool x.n.s, .int .u64 x.w.b, .bool x.w.s], .int .i64 y, .int .i64 m, .int .i64 d] w fun e w' => e = .returned (.bool true) ∧ Below w.heap.size w w' := by
  have hm := fun W => Lib.hid (hm W)
  have hsH := Lib.hid hs
  clear hs
  go_enter Tryz.func6, Tryz.ntmps6
  go_wp2_with fail
  have hb0 : Below w.heap.size w (w.alloc (.cells #[.int .u64 x.m.b, .bool x.m.s, .int .u64 x.h.b, .bool x.h.s, .int .u64 x.d.b, .bool x.d.s, .int .u64 x.n.b, .bool x.n.s, .int .u64 x.w.b, .bool x.w.s] 26)) := (Below.refl _ _).alloc (Nat.le_refl _) _
  refine (works_ok _ (hE.below hb0) (Nat.le_trans h8 hb0.size)).mono ?_
  rintro e w1 ⟨rfl, hb⟩
  have hX := blk_below (boxed w x) hb
  have hB := hb0.trans (hb.mono hb0.size)
  clear hb hb0
  obtain ⟨c0, c1, c2, c3, c4, c5, c6, c7, c8, c9⟩ := SpB.spIn (x := x) hX
  go_wp2_with fail
  refine (hm _).out.mono ?_
  rintro e w2 ⟨rfl, hb⟩
  have hB2 := hB.trans (hb.mono hB.size)
  have hX2 := blk_below hX hb
  clear c0 c1 c2 c3 c4 c5 c6 c7 c8 c9 hX hB hb
  rw [hsH.out] at hX2
  obtain ⟨c0, c1, c2, c3, c4, c5, c6, c7, c8, c9⟩ := SpB.spIn (x := { x with d := ⟨x.d.b, true⟩ }) hX2
  go_wp2_with fail
  refine (length_q _ _ _).mono ?_
  rintro e w3 ⟨rfl, rfl⟩
  go_wp2
  go_ret
  exact ⟨rfl, hB2⟩

set_option maxRecDepth 100000 in
set_option maxHeartbeats 2000000 in
theorem weeks_in (x : Sp) (y m d : Int) (w : World) (hE : Env w) (h8 : 8 ≤ w.heap.size) (hs : x.d.s = true) (hk : (spChk x).2 = 0) (h0 : 1 ≤ d) (h1 : d ≤ 24) (hd : d + 7 ≤ lenI y m)
    (hm : ∀ W, Calls Tryz.prog 20 #[.agg #[.int .u64 x.m.b, .bool x.m.s, .int .u64 x.h.b, .bool x.h.s, .int .u64 x.d.b, .bool x.d.s, .int .u64 x.n.b, .bool x.n.s, .int .u64 x.w.b, .bool x.w.s], .int .i64 y, .int .i64 m] W fun e w' => e = .returned (.tuple #[.int .u32 (maskI x y m), .int .i64 0]) ∧ Below W.heap.size W w') :
    Calls Tryz.prog 6 #[.agg #[.int .u64 x.m.b, .bool x.m.s, .int .u64 x.h.b, .bool x.h.s, .int .u64 x.d.b, .bool x.d.s, .int .u64 x.n.b, .bool x.n.s, .int .u64 x.w.b, .bool x.w.s], .int .i64 y, .int .i64 m, .int .i64 d] w fun e w' => e = .returned (.bool true) ∧ Below w.heap.size w w' := by
  have hm := fun W => Lib.hid (hm W)
  have b1 := bit_any x y m d (by omega)
  have b2 := bit_any x y m (d + 7) (by omega)
  rw [week_bit x y m d hk hs h0 h1, show decide (1 ≤ d + 7 ∧ d + 7 ≤ lenI y m) = true by simp; omega] at b2
  rw [show decide (1 ≤ d ∧ d ≤ lenI y m) = true by simp; omega] at b1
  have hbb : (bits .and .u32 ((maskI x y m : Int) / 2 ^ d.toNat) 1 == bits .and .u32 ((maskI x y m : Int) / 2 ^ (d + 7).toNat) 1) = true := by rw [b1, b2]; simp
  clear b1 b2 hk
  have hsH := Lib.hid hs
  clear hs
  go_enter Tryz.func6, Tryz.ntmps6
  go_wp2_with fail
  have hb0 : Below w.heap.size w (w.alloc (.cells #[.int .u64 x.m.b, .bool x.m.s, .int .u64 x.h.b, .bool x.h.s, .int .u64 x.d.b, .bool x.d.s, .int .u64 x.n.b, .bool x.n.s, .int .u64 x.w.b, .bool x.w.s] 26)) := (Below.refl _ _).alloc (Nat.le_refl _) _
  refine (works_ok _ (hE.below hb0) (Nat.le_trans h8 hb0.size)).mono ?_
  rintro e w1 ⟨rfl, hb⟩
  have hX := blk_below (boxed w x) hb
  have hB := hb0.trans (hb.mono hb0.size)
  clear hb hb0
  obtain ⟨c0, c1, c2, c3, c4, c5, c6, c7, c8, c9⟩ := SpB.spIn (x := x) hX
  go_wp2_with fail
  refine (hm _).out.mono ?_
  rintro e w2 ⟨rfl, hb⟩
  have hB2 := hB.trans (hb.mono hB.size)
  have hX2 := blk_below hX hb
  clear c0 c1 c2 c3 c4 c5 c6 c7 c8 c9 hX hB hb
  rw [hsH.out] at hX2
  obtain ⟨c0, c1, c2, c3, c4, c5, c6, c7, c8, c9⟩ := SpB.spIn (x := { x with d := ⟨x.d.b, true⟩ }) hX2
  go_wp2_with fail
  refine (length_q _ _ _).mono ?_
  rintro e w3 ⟨rfl, rfl⟩
  go_wp2
  go_ret
  exact ⟨rfl, hB2⟩

theorem weeks_any (x : Sp) (y m d : Int) (w : World) (hx : x.Ok) (hE : Env w) (h8 : 8 ≤ w.heap.size) :
    Calls Tryz.prog 6 #[.agg #[.int .u64 x.m.b, .bool x.m.s, .int .u64 x.h.b, .bool x.h.s, .int .u64 x.d.b, .bool x.d.s, .int .u64 x.n.b, .bool x.n.s, .int .u64 x.w.b, .bool x.w.s], .int .i64 y, .int .i64 m, .int .i64 d] w fun e w' => e = .returned (.bool true) ∧ Below w.heap.size w w' := by
  by_cases hk : (spChk x).2 = 0
  · by_cases h : MonthOk y m
    · by_cases hs : x.d.s = false
      · exact weeks_st x y m d w hE h8 hs (fun W => mask_ok x y m W hx hk h)
      · have hs : x.d.s = true := by simpa using hs
        by_cases h0 : d < 1
        · exact weeks_lo x y m d w hE h8 hs h0 (fun W => mask_ok x y m W hx hk h)
        · by_cases h1 : 24 < d
          · exact weeks_hi x y m d w hE h8 hs (by omega) h1 (fun W => mask_ok x y m W hx hk h)
          · by_cases h2 : lenI y m < d + 7
            · exact weeks_far x y m d w hE h8 hs (by omega) (by omega) h2 (fun W => mask_ok x y m W hx hk h)
            · exact weeks_in x y m d w hE h8 hs hk (by omega) (by omega) (by omega) (fun W => mask_ok x y m W hx hk h)
    · exact weeks_off x y m d 1 w hE h8 rfl (fun W => mask_no x y m W hx hk h)
  · exact weeks_off x y m d 2 w hE h8 rfl (fun W => mask_bad x y m W hx hk)

end Go.Proofs.YtkdejfedigiohaaGreatDoor
