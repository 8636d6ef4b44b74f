/- complinelaw21's DayMonths and DayWeeks: the walks, and why they hold. -/
import Derived.Test.YtkdejfedigiohaaGreatDoorLawP
namespace Go.Proofs.YtkdejfedigiohaaGreatDoor
open Go.RowKit Go.Proofs.YtkdejfedigiohaaGreatDoorW.PrintWords Go.Proofs.YtkdejfedigiohaaGreatDoorW.PrintLast Go.Proofs.YtkdejfedigiohaaGreatDoorW.PrintMore
set_option linter.unusedVariables false
set_option linter.unusedSimpArgs false

open Go.Proofs.YtkdejfedigiohaaGreatDoor.PR

theorem bit_any (x : Sp) (y m d : Int) (h0 : 0 ≤ d) : bits .and .u32 ((maskI x y m : Int) / 2 ^ d.toNat) 1 = if (decide (1 ≤ d ∧ d ≤ lenI y m) && dayBit x y m d) = true then 1 else 0 := by
  rw [and1 _ _ (maskI_lt x y m), maskI_bit, show ((d.toNat : Nat) : Int) = d by omega]
theorem mask_even (x : Sp) (y m : Int) : (maskI x y m) % 2 = 0 := by
  have h := maskI_bit x y m 0
  rw [Nat.testBit_zero] at h
  simp at h
  omega
theorem chk_d (x : Sp) (h : (spChk x).2 = 0) : chkI x.d.b x.d.s 2 = 0 := by
  unfold spChk at h
  by_cases h1 : chkI x.m.b x.m.s 0 = 0
  · by_cases h2 : chkI x.h.b x.h.s 1 = 0
    · by_cases h3 : chkI x.d.b x.d.s 2 = 0
      · exact h3
      · rw [if_neg (by simp [h1]), if_neg (by simp [h2]), if_pos h3] at h; exact absurd h h3
    · rw [if_neg (by simp [h1]), if_pos h2] at h; exact absurd h h2
  · rw [if_pos h1] at h; exact absurd h h1
theorem star_d (x : Sp) (h : (spChk x).2 = 0) (hs : x.d.s = true) (d : Int) (h0 : 1 ≤ d) (h1 : d ≤ 31) : hasB x.d.b d = true := by
  have hc := chk_d x h
  have hb : x.d.b = 4294967294 := by
    unfold chkI at hc
    rw [if_neg (by omega)] at hc
    by_cases a : x.d.b = 0
    · rw [if_pos a] at hc; cases hc
    · rw [if_neg a] at hc
      split at hc
      · cases hc
      · by_cases b : x.d.b = allB 2
        · exact b
        · rw [if_pos ⟨hs, b⟩] at hc; cases hc
  have ht : ∀ n, n < 32 → 1 ≤ n → Nat.testBit 4294967294 n = true := by decide
  unfold hasB
  rw [hb]
  simp only [Bool.and_eq_true, decide_eq_true_eq]
  exact ⟨by omega, by omega, ht d.toNat (by omega) (by omega)⟩

set_option maxRecDepth 100000 in
set_option maxHeartbeats 2000000 in
theorem months_off (x : Sp) (y m d er : Int) (w : World) (hE : Env w) (h8 : 8 ≤ w.heap.size) (her : (er != 0) = true) (her2 : (er == 0) = false)
    (hm : ∀ W, Calls Tryz.prog 20 #[.agg #[.int .u64 x.m.b, .bool x.m.s, .int .u64 x.h.b, .bool x.h.s, .int .u64 x.d.b, .bool x.d.s, .int .u64 x.n.b, .bool x.n.s, .int .u64 x.w.b, .bool x.w.s], .int .i64 y, .int .i64 m] W fun e w' => e = .returned (.tuple #[.int .u32 0, .int .i64 er]) ∧ Below W.heap.size W w') :
    Calls Tryz.prog 5 #[.agg #[.int .u64 x.m.b, .bool x.m.s, .int .u64 x.h.b, .bool x.h.s, .int .u64 x.d.b, .bool x.d.s, .int .u64 x.n.b, .bool x.n.s, .int .u64 x.w.b, .bool x.w.s], .int .i64 y, .int .i64 m, .int .i64 d] w fun e w' => e = .returned (.bool true) ∧ Below w.heap.size w w' := by
  have hm := fun W => Lib.hid (hm W)
  go_enter Tryz.func5, Tryz.ntmps5
  go_wp2_with fail
  have hb0 : Below w.heap.size w (w.alloc (.cells #[.int .u64 x.m.b, .bool x.m.s, .int .u64 x.h.b, .bool x.h.s, .int .u64 x.d.b, .bool x.d.s, .int .u64 x.n.b, .bool x.n.s, .int .u64 x.w.b, .bool x.w.s] 26)) := (Below.refl _ _).alloc (Nat.le_refl _) _
  refine (works_ok _ (hE.below hb0) (Nat.le_trans h8 hb0.size)).mono ?_
  rintro e w1 ⟨rfl, hb⟩
  have hX := blk_below (boxed w x) hb
  have hB := hb0.trans (hb.mono hb0.size)
  clear hb hb0
  obtain ⟨c0, c1, c2, c3, c4, c5, c6, c7, c8, c9⟩ := SpB.spIn (x := x) hX
  go_wp2_with fail
  refine (hm _).out.mono ?_
  rintro e w2 ⟨rfl, hb⟩
  have hB2 := hB.trans (hb.mono hB.size)
  have hX2 := blk_below hX hb
  clear c0 c1 c2 c3 c4 c5 c6 c7 c8 c9 hX hB hb
  go_wp2
  go_ret
  exact ⟨rfl, hB2⟩

set_option maxRecDepth 100000 in
set_option maxHeartbeats 2000000 in
theorem months_lo (x : Sp) (y m d : Int) (w : World) (hE : Env w) (h8 : 8 ≤ w.heap.size) (hd : d < 0)
    (hm : ∀ W, Calls Tryz.prog 20 #[.agg #[.int .u64 x.m.b, .bool x.m.s, .int .u64 x.h.b, .bool x.h.s, .int .u64 x.d.b, .bool x.d.s, .int .u64 x.n.b, .bool x.n.s, .int .u64 x.w.b, .bool x.w.s], .int .i64 y, .int .i64 m] W fun e w' => e = .returned (.tuple #[.int .u32 (maskI x y m), .int .i64 0]) ∧ Below W.heap.size W w') :
    Calls Tryz.prog 5 #[.agg #[.int .u64 x.m.b, .bool x.m.s, .int .u64 x.h.b, .bool x.h.s, .int .u64 x.d.b, .bool x.d.s, .int .u64 x.n.b, .bool x.n.s, .int .u64 x.w.b, .bool x.w.s], .int .i64 y, .int .i64 m, .int .i64 d] w fun e w' => e = .returned (.bool true) ∧ Below w.heap.size w w' := by
  have hm := fun W => Lib.hid (hm W)
  go_enter Tryz.func5, Tryz.ntmps5
  go_wp2_with fail
  have hb0 : Below w.heap.size w (w.alloc (.cells #[.int .u64 x.m.b, .bool x.m.s, .int .u64 x.h.b, .bool x.h.s, .int .u64 x.d.b, .bool x.d.s, .int .u64 x.n.b, .bool x.n.s, .int .u64 x.w.b, .bool x.w.s] 26)) := (Below.refl _ _).alloc (Nat.le_refl _) _
  refine (works_ok _ (hE.below hb0) (Nat.le_trans h8 hb0.size)).mono ?_
  rintro e w1 ⟨rfl, hb⟩
  have hX := blk_below (boxed w x) hb
  have hB := hb0.trans (hb.mono hb0.size)
  clear hb hb0
  obtain ⟨c0, c1, c2, c3, c4, c5, c6, c7, c8, c9⟩ := SpB.spIn (x := x) hX
  go_wp2_with fail
  refine (hm _).out.mono ?_
  rintro e w2 ⟨rfl, hb⟩
  have hB2 := hB.trans (hb.mono hB.size)
  have hX2 := blk_below hX hb
  clear c0 c1 c2 c3 c4 c5 c6 c7 c8 c9 hX hB hb
  go_wp2
  go_ret
  exact ⟨rfl, hB2⟩

set_option maxRecDepth 100000 in
set_option maxHeartbeats 2000000 in
theorem months_hi (x : Sp) (y m d : Int) (w : World) (hE : Env w) (h8 : 8 ≤ w.heap.size) (hd : 31 < d)
    (hm : ∀ W, Calls Tryz.prog 20 #[.agg #[.int .u64 x.m.b, .bool x.m.s, .int .u64 x.h.b, .bool x.h.s, .int .u64 x.d.b, .bool x.d.s, .int .u64 x.n.b, .bool x.n.s, .int .u64 x.w.b, .bool x.w.s], .int .i64 y, .int .i64 m] W fun e w' => e = .returned (.tuple #[.int .u32 (maskI x y m), .int .i64 0]) ∧ Below W.heap.size W w') :
    Calls Tryz.prog 5 #[.agg #[.int .u64 x.m.b, .bool x.m.s, .int .u64 x.h.b, .bool x.h.s, .int .u64 x.d.b, .bool x.d.s, .int .u64 x.n.b, .bool x.n.s, .int .u64 x.w.b, .bool x.w.s], .int .i64 y, .int .i64 m, .int .i64 d] w fun e w' => e = .returned (.bool true) ∧ Below w.heap.size w w' := by
  have hm := fun W => Lib.hid (hm W)
  go_enter Tryz.func5, Tryz.ntmps5
  go_wp2_with fail
  have hb0 : Below w.heap.size w (w.alloc (.cells #[.int .u64 x.m.b, .bool x.m.s, .int .u64 x.h.b, .bool x.h.s, .int .u64 x.d.b, .bool x.d.s, .int .u64 x.n.b, .bool x.n.s, .int .u64 x.w.b, .bool x.w.s] 26)) := (Below.refl _ _).alloc (Nat.le_refl _) _
  refine (works_ok _ (hE.below hb0) (Nat.le_trans h8 hb0.size)).mono ?_
  rintro e w1 ⟨rfl, hb⟩
  have hX := blk_below (boxed w x) hb
  have hB := hb0.trans (hb.mono hb0.size)
  clear hb hb0
  obtain ⟨c0, c1, c2, c3, c4, c5, c6, c7, c8, c9⟩ := SpB.spIn (x := x) hX
  go_wp2_with fail
  refine (hm _).out.mono ?_
  rintro e w2 ⟨rfl, hb⟩
  have hB2 := hB.trans (hb.mono hB.size)
  have hX2 := blk_below hX hb
  clear c0 c1 c2 c3 c4 c5 c6 c7 c8 c9 hX hB hb
  go_wp2
  go_ret
  exact ⟨rfl, hB2⟩

set_option maxRecDepth 100000 in
set_option maxHeartbeats 2000000 in
theorem months_in (x : Sp) (y m d : Int) (w : World) (hE : Env w) (h8 : 8 ≤ w.heap.size) (hx : x.Ok) (h0 : 0 ≤ d) (h1 : d ≤ 31)
    (hm : ∀ W, Calls Tryz.prog 20 #[.agg #[.int .u64 x.m.b, .bool x.m.s, .int .u64 x.h.b, .bool x.h.s, .int .u64 x.d.b, .bool x.d.s, .int .u64 x.n.b, .bool x.n.s, .int .u64 x.w.b, .bool x.w.s], .int .i64 y, .int .i64 m] W fun e w' => e = .returned (.tuple #[.int .u32 (maskI x y m), .int .i64 0]) ∧ Below W.heap.size W w') :
    Calls Tryz.prog 5 #[.agg #[.int .u64 x.m.b, .bool x.m.s, .int .u64 x.h.b, .bool x.h.s, .int .u64 x.d.b, .bool x.d.s, .int .u64 x.n.b, .bool x.n.s, .int .u64 x.w.b, .bool x.w.s], .int .i64 y, .int .i64 m, .int .i64 d] w fun e w' => e = .returned (.bool true) ∧ Below w.heap.size w w' := by
  have hm := fun W => Lib.hid (hm W)
  have hbit := bit_any x y m d h0
  cases q : (decide (1 ≤ d ∧ d ≤ lenI y m) && dayBit x y m d)
  · rw [q] at hbit
    simp only [Bool.false_eq_true, if_false] at hbit
    clear q
    have hev : (((maskI x y m : Nat) : Int) % 2 == 0) = true := by have := mask_even x y m; rw [beq_iff_eq]; omega
    by_cases hd : d = 0
    · subst hd
      have hbit : bits .and .u32 ((maskI x y m : Nat) : Int) 1 = 0 := by simpa using hbit
      go_enter Tryz.func5, Tryz.ntmps5
      go_wp2_with fail
      have hb0 : Below w.heap.size w (w.alloc (.cells #[.int .u64 x.m.b, .bool x.m.s, .int .u64 x.h.b, .bool x.h.s, .int .u64 x.d.b, .bool x.d.s, .int .u64 x.n.b, .bool x.n.s, .int .u64 x.w.b, .bool x.w.s] 26)) := (Below.refl _ _).alloc (Nat.le_refl _) _
      refine (works_ok _ (hE.below hb0) (Nat.le_trans h8 hb0.size)).mono ?_
      rintro e w1 ⟨rfl, hb⟩
      have hX := blk_below (boxed w x) hb
      have hB := hb0.trans (hb.mono hb0.size)
      clear hb hb0
      obtain ⟨c0, c1, c2, c3, c4, c5, c6, c7, c8, c9⟩ := SpB.spIn (x := x) hX
      go_wp2_with fail
      refine (hm _).out.mono ?_
      rintro e w2 ⟨rfl, hb⟩
      have hB2 := hB.trans (hb.mono hB.size)
      have hX2 := blk_below hX hb
      clear c0 c1 c2 c3 c4 c5 c6 c7 c8 c9 hX hB hb
      go_wp2
      go_ret
      exact ⟨rfl, hB2⟩
    · have hdb : (d != 0) = true := by simpa using hd
      go_enter Tryz.func5, Tryz.ntmps5
      go_wp2_with fail
      have hb0 : Below w.heap.size w (w.alloc (.cells #[.int .u64 x.m.b, .bool x.m.s, .int .u64 x.h.b, .bool x.h.s, .int .u64 x.d.b, .bool x.d.s, .int .u64 x.n.b, .bool x.n.s, .int .u64 x.w.b, .bool x.w.s] 26)) := (Below.refl _ _).alloc (Nat.le_refl _) _
      refine (works_ok _ (hE.below hb0) (Nat.le_trans h8 hb0.size)).mono ?_
      rintro e w1 ⟨rfl, hb⟩
      have hX := blk_below (boxed w x) hb
      have hB := hb0.trans (hb.mono hb0.size)
      clear hb hb0
      obtain ⟨c0, c1, c2, c3, c4, c5, c6, c7, c8, c9⟩ := SpB.spIn (x := x) hX
      go_wp2_with fail
      refine (hm _).out.mono ?_
      rintro e w2 ⟨rfl, hb⟩
      have hB2 := hB.trans (hb.mono hB.size)
      have hX2 := blk_below hX hb
      clear c0 c1 c2 c3 c4 c5 c6 c7 c8 c9 hX hB hb
      go_wp2
      go_ret
      exact ⟨rfl, hB2⟩
  · rw [q] at hbit
    simp only [if_true] at hbit
    simp only [Bool.and_eq_true, decide_eq_true_eq] at q
    obtain ⟨⟨q1, q2⟩, q3⟩ := q
    have q4 : hasB x.n.b m = true := by unfold dayBit at q3; simp only [Bool.and_eq_true] at q3; exact q3.1
    have hh := fun W => has_any x.n.b x.n.s m W hx.n
    rw [q4] at hh
    have hh := fun W => Lib.hid (hh W)
    clear q3 q4
    go_enter Tryz.func5, Tryz.ntmps5
    go_wp2_with fail
    have hb0 : Below w.heap.size w (w.alloc (.cells #[.int .u64 x.m.b, .bool x.m.s, .int .u64 x.h.b, .bool x.h.s, .int .u64 x.d.b, .bool x.d.s, .int .u64 x.n.b, .bool x.n.s, .int .u64 x.w.b, .bool x.w.s] 26)) := (Below.refl _ _).alloc (Nat.le_refl _) _
    refine (works_ok _ (hE.below hb0) (Nat.le_trans h8 hb0.size)).mono ?_
    rintro e w1 ⟨rfl, hb⟩
    have hX := blk_below (boxed w x) hb
    have hB := hb0.trans (hb.mono hb0.size)
    clear hb hb0
    obtain ⟨c0, c1, c2, c3, c4, c5, c6, c7, c8, c9⟩ := SpB.spIn (x := x) hX
    go_wp2_with fail
    refine (hm _).out.mono ?_
    rintro e w2 ⟨rfl, hb⟩
    have hB2 := hB.trans (hb.mono hB.size)
    have hX2 := blk_below hX hb
    clear c0 c1 c2 c3 c4 c5 c6 c7 c8 c9 hX hB hb
    obtain ⟨c0, c1, c2, c3, c4, c5, c6, c7, c8, c9⟩ := SpB.spIn (x := x) hX2
    go_wp2_with fail
    refine (length_q _ _ _).mono ?_
    rintro e w3 ⟨rfl, rfl⟩
    go_wp2_with fail
    refine (hh _).out.mono ?_
    rintro e w3 ⟨rfl, hb3⟩
    go_wp2
    go_ret
    exact ⟨rfl, hB2.trans (hb3.mono hB2.size)⟩

theorem months_any (x : Sp) (y m d : Int) (w : World) (hx : x.Ok) (hE : Env w) (h8 : 8 ≤ w.heap.size) :
    Calls Tryz.prog 5 #[.agg #[.int .u64 x.m.b, .bool x.m.s, .int .u64 x.h.b, .bool x.h.s, .int .u64 x.d.b, .bool x.d.s, .int .u64 x.n.b, .bool x.n.s, .int .u64 x.w.b, .bool x.w.s], .int .i64 y, .int .i64 m, .int .i64 d] w fun e w' => e = .returned (.bool true) ∧ Below w.heap.size w w' := by
  by_cases hk : (spChk x).2 = 0
  · by_cases h : MonthOk y m
    · by_cases h0 : d < 0
      · exact months_lo x y m d w hE h8 h0 (fun W => mask_ok x y m W hx hk h)
      · by_cases h1 : 31 < d
        · exact months_hi x y m d w hE h8 h1 (fun W => mask_ok x y m W hx hk h)
        · exact months_in x y m d w hE h8 hx (by omega) (by omega) (fun W => mask_ok x y m W hx hk h)
    · exact months_off x y m d 1 w hE h8 rfl rfl (fun W => mask_no x y m W hx hk h)
  · exact months_off x y m d 2 w hE h8 rfl rfl (fun W => mask_bad x y m W hx hk)

end Go.Proofs.YtkdejfedigiohaaGreatDoor
