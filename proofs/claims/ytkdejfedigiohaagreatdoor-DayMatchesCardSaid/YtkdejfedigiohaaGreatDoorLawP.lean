/- complinelaw21.DayParts: the walk. -/
import Derived.Test.YtkdejfedigiohaaGreatDoorWorks
namespace Go.Proofs.YtkdejfedigiohaaGreatDoor
open Go.RowKit Go.Proofs.YtkdejfedigiohaaGreatDoorW.PrintWords Go.Proofs.YtkdejfedigiohaaGreatDoorW.PrintLast Go.Proofs.YtkdejfedigiohaaGreatDoorW.PrintMore
set_option linter.unusedVariables false
set_option linter.unusedSimpArgs false

open Go.Proofs.YtkdejfedigiohaaGreatDoor.PR

theorem boxed (w : World) (x : Sp) : SpB (w.alloc (.cells #[.int .u64 x.m.b, .bool x.m.s, .int .u64 x.h.b, .bool x.h.s, .int .u64 x.d.b, .bool x.d.s, .int .u64 x.n.b, .bool x.n.s, .int .u64 x.w.b, .bool x.w.s] 26)) w.heap.size x := blk_new _ _

set_option maxRecDepth 100000 in
set_option maxHeartbeats 2000000 in
theorem parts_off (x : Sp) (t er : Int) (w : World) (hE : Env w) (h8 : 8 ≤ w.heap.size) (her : (er != 0) = true)
    (h1 : ∀ W, Calls Tryz.prog 15 #[.agg #[.int .u64 x.m.b, .bool x.m.s, .int .u64 x.h.b, .bool x.h.s, .int .u64 x.d.b, .bool x.d.s, .int .u64 x.n.b, .bool x.n.s, .int .u64 x.w.b, .bool x.w.s], .int .i64 t] W fun e w' => e = .returned (.tuple #[.bool false, .int .i64 er]) ∧ Below W.heap.size W w')
    (h2 : ∀ W, Calls Tryz.prog 19 #[.int .i64 t] W fun e w' => (∃ a b c d f g h : Int, e = .returned (.tuple #[.agg #[.int .i64 a, .int .i64 b, .int .i64 c, .int .i64 d, .int .i64 f, .int .i64 g], .int .i64 h])) ∧ Below W.heap.size W w') :
    Calls Tryz.prog 4 #[.agg #[.int .u64 x.m.b, .bool x.m.s, .int .u64 x.h.b, .bool x.h.s, .int .u64 x.d.b, .bool x.d.s, .int .u64 x.n.b, .bool x.n.s, .int .u64 x.w.b, .bool x.w.s], .int .i64 t] w fun e w' => e = .returned (.bool true) ∧ Below w.heap.size w w' := by
  have h1 := fun W => Lib.hid (h1 W)
  have h2 := fun W => Lib.hid (h2 W)
  go_enter Tryz.func4, Tryz.ntmps4
  go_wp2_with fail
  have hb0 : Below w.heap.size w (w.alloc (.cells #[.int .u64 x.m.b, .bool x.m.s, .int .u64 x.h.b, .bool x.h.s, .int .u64 x.d.b, .bool x.d.s, .int .u64 x.n.b, .bool x.n.s, .int .u64 x.w.b, .bool x.w.s] 26)) := (Below.refl _ _).alloc (Nat.le_refl _) _
  refine (works_ok _ (hE.below hb0) (Nat.le_trans h8 hb0.size)).mono ?_
  rintro e w1 ⟨rfl, hb⟩
  have hX := blk_below (boxed w x) hb
  have hB := hb0.trans (hb.mono hb0.size)
  clear hb hb0
  obtain ⟨c0, c1, c2, c3, c4, c5, c6, c7, c8, c9⟩ := SpB.spIn (x := x) hX
  go_wp2_with fail
  refine (h1 _).out.mono ?_
  rintro e w2 ⟨rfl, hb⟩
  have hB2 := hB.trans (hb.mono hB.size)
  clear c0 c1 c2 c3 c4 c5 c6 c7 c8 c9 hX hB hb
  go_wp2_with fail
  refine (h2 _).out.mono ?_
  rintro e w3 ⟨⟨a, b, c, d, f, g, h, rfl⟩, hb⟩
  have hB3 := hB2.trans (hb.mono hB2.size)
  go_wp2
  go_ret
  refine ⟨rfl, ?_⟩
  exact hB3.alloc hB3.size _

/-- Does a day of a month match. -/
def dayBit (x : Sp) (y m d : Int) : Bool := hasB x.n.b m && dayOn x d (weekI (firstI y m + d - 1))
theorem maskN_bit (x : Sp) (wk : Int) (k d : Nat) : (maskN x wk k).testBit d = (decide (1 ≤ d ∧ d ≤ k) && dayOn x d ((wk + (d - 1 : Int)) % 7)) := by
  induction k with
  | zero => simp [maskN]; intro h1 h2; omega
  | succ k ih =>
    simp only [maskN]
    by_cases hd : d = k + 1
    · subst hd
      have h0 : (maskN x wk k).testBit (k + 1) = false := Nat.testBit_lt_two_pow (maskN_lt x wk k)
      rw [show ((k + 1 : Nat) : Int) = (k : Int) + 1 by omega, show wk + ((k : Int) + 1 - 1) = wk + k by omega]
      cases hb : dayOn x ((k : Int) + 1) ((wk + k) % 7)
      · simp [h0]
      · rw [if_pos rfl, Nat.add_comm, Nat.testBit_two_pow_add_eq, h0]; simp
    · split
      · rw [Nat.add_comm]
        rcases Nat.lt_or_ge d (k + 1) with h | h
        · rw [Nat.testBit_two_pow_add_gt h, ih, show decide (1 ≤ d ∧ d ≤ k) = decide (1 ≤ d ∧ d ≤ k + 1) by rw [decide_eq_decide]; omega]
        · have hlt : 2 ^ (k + 1) + maskN x wk k < 2 ^ d := by
            have h1 := maskN_lt x wk k
            have h2 : 2 ^ (k + 1 + 1) ≤ 2 ^ d := Nat.pow_le_pow_right (by decide) (by omega)
            rw [Nat.pow_succ] at h2
            omega
          rw [Nat.testBit_lt_two_pow hlt, show decide (1 ≤ d ∧ d ≤ k + 1) = false by simp; omega]
          rfl
      · rw [Nat.add_zero, ih, show decide (1 ≤ d ∧ d ≤ k) = decide (1 ≤ d ∧ d ≤ k + 1) by rw [decide_eq_decide]; omega]
theorem and1 (M d : Nat) (h : M < 2 ^ 32) : bits .and .u32 ((M : Int) / 2 ^ d) 1 = if M.testBit d = true then 1 else 0 := by
  rw [show ((M : Int) / 2 ^ d) = ((M / 2 ^ d : Nat) : Int) by push_cast; rfl]
  have := (bits_nat .u32 32 (by decide) (fun n a b => by rw [IntKind.wrap_u32]; omega) (M / 2 ^ d) 1 (Nat.lt_of_le_of_lt (Nat.div_le_self _ _) h) (by decide)).1
  rw [show ((1 : Nat) : Int) = 1 from rfl] at this
  rw [this, Nat.and_one_is_mod, Nat.testBit_eq_decide_div_mod_eq]
  rcases Nat.mod_two_eq_zero_or_one (M / 2 ^ d) with e | e <;> simp [e]
theorem maskI_lt (x : Sp) (y m : Int) : maskI x y m < 2 ^ 32 := by
  unfold maskI
  split
  · have h1 := maskN_lt x (weekI (firstI y m)) (lenI y m).toNat
    have h2 : 2 ^ ((lenI y m).toNat + 1) ≤ 2 ^ 32 := Nat.pow_le_pow_right (by decide) (by have := lenI_bd y m; omega)
    omega
  · decide
theorem maskI_bit (x : Sp) (y m : Int) (d : Nat) : (maskI x y m).testBit d = (decide (1 ≤ (d : Int) ∧ (d : Int) ≤ lenI y m) && dayBit x y m d) := by
  have hl := (lenI_bd y m).1
  unfold maskI dayBit
  cases hasB x.n.b m
  · simp
  · rw [if_pos rfl, maskN_bit, show (weekI (firstI y m) + ((d : Int) - 1)) % 7 = weekI (firstI y m + d - 1) by unfold weekI; omega, show decide (1 ≤ d ∧ d ≤ (lenI y m).toNat) = decide (1 ≤ (d : Int) ∧ (d : Int) ≤ lenI y m) by rw [decide_eq_decide]; omega]
    simp
theorem bit_day (x : Sp) (y m d : Int) (h0 : 1 ≤ d) (h1 : d ≤ lenI y m) : bits .and .u32 ((maskI x y m : Int) / 2 ^ d.toNat) 1 = if dayBit x y m d = true then 1 else 0 := by
  rw [and1 _ _ (maskI_lt x y m), maskI_bit, show ((d.toNat : Nat) : Int) = d by omega]
  simp [h0, h1]
theorem match_day (x : Sp) (y m d h mi n : Int) (hD : IsDate n y m d) : matchI x m d h mi (weekI n) = (dayBit x y m d && (hasB x.h.b h && hasB x.m.b mi)) := by
  unfold matchI dayBit
  rw [show firstI y m + d - 1 = n from hD.sum, Bool.and_assoc]

set_option maxRecDepth 100000 in
set_option maxHeartbeats 2000000 in
theorem parts_on (x : Sp) (t : Int) (w : World) (hE : Env w) (h8 : 8 ≤ w.heap.size) (hx : x.Ok) (hk : (spChk x).2 = 0) (h0 : 0 ≤ t) (h1 : t ≤ 541727999) :
    Calls Tryz.prog 4 #[.agg #[.int .u64 x.m.b, .bool x.m.s, .int .u64 x.h.b, .bool x.h.s, .int .u64 x.d.b, .bool x.d.s, .int .u64 x.n.b, .bool x.n.s, .int .u64 x.w.b, .bool x.w.s], .int .i64 t] w fun e w' => e = .returned (.bool true) ∧ Below w.heap.size w w' := by
  have hm := fun W => Lib.hid (match_ok x t W hx hk h0 h1)
  have ho := fun W => Lib.hid (of_ok t W h0 h1)
  have hms := fun y m W hM => Lib.hid (mask_ok x y m W hx hk hM)
  clear hk
  go_enter Tryz.func4, Tryz.ntmps4
  go_wp2_with fail
  have hb0 : Below w.heap.size w (w.alloc (.cells #[.int .u64 x.m.b, .bool x.m.s, .int .u64 x.h.b, .bool x.h.s, .int .u64 x.d.b, .bool x.d.s, .int .u64 x.n.b, .bool x.n.s, .int .u64 x.w.b, .bool x.w.s] 26)) := (Below.refl _ _).alloc (Nat.le_refl _) _
  refine (works_ok _ (hE.below hb0) (Nat.le_trans h8 hb0.size)).mono ?_
  rintro e w1 ⟨rfl, hb⟩
  have hX := blk_below (boxed w x) hb
  have hB := hb0.trans (hb.mono hb0.size)
  clear hb hb0
  obtain ⟨c0, c1, c2, c3, c4, c5, c6, c7, c8, c9⟩ := SpB.spIn (x := x) hX
  go_wp2_with fail
  refine (hm _).out.mono ?_
  rintro e w2 ⟨⟨y, m, d, hD, rfl⟩, hb⟩
  have hB2 := hB.trans (hb.mono hB.size)
  have hX2 := blk_below hX hb
  have hbit := bit_day x y m d hD.d0 hD.d1
  rw [match_day x y m d (t / 60 % 24) (t % 60) (t / 1440) hD]
  have hh := fun W => has_any x.h.b x.h.s (t / 60 % 24) W hx.h
  have hmi := fun W => has_any x.m.b x.m.s (t % 60) W hx.m
  have hD := Lib.hid hD
  cases q1 : dayBit x y m d
  · rw [q1] at hbit
    clear q1
    simp only [Bool.false_eq_true, if_false, if_true, Bool.and_true, Bool.and_false, Bool.true_and, Bool.false_and] at hbit ⊢
    have hh := fun W => Lib.hid (hh W)
    have hmi := fun W => Lib.hid (hmi W)
    clear c0 c1 c2 c3 c4 c5 c6 c7 c8 c9 hX hB hb
    go_wp2_with fail
    refine (ho _).out.mono ?_
    rintro e w3 ⟨y', m', d', hD', rfl, hb⟩
    obtain ⟨rfl, rfl, rfl⟩ := IsDate.inj hD' hD.out
    clear hD'
    generalize t / 60 % 24 = hr at *
    generalize t % 60 = mn at *
    generalize weekI (t / 1440) = wk at *
    have hB3 := hB2.trans (hb.mono hB2.size)
    have hX3 := blk_below hX2 hb
    clear hb hX2 hB2
    have hX4 : SpB (w3.alloc (.cells #[.int .i64 y', .int .i64 m', .int .i64 d', .int .i64 hr, .int .i64 mn, .int .i64 wk] 36)) w.heap.size x := blk_alloc hX3 _
    have hC4 : (w3.alloc (.cells #[.int .i64 y', .int .i64 m', .int .i64 d', .int .i64 hr, .int .i64 mn, .int .i64 wk] 36)).heap[w3.heap.size]? = some (.cells #[.int .i64 y', .int .i64 m', .int .i64 d', .int .i64 hr, .int .i64 mn, .int .i64 wk] 36 (0, 0)) := blk_new _ _
    have hB4 := hB3.alloc hB3.size (.cells #[.int .i64 y', .int .i64 m', .int .i64 d', .int .i64 hr, .int .i64 mn, .int .i64 wk] 36)
    clear hX3 hB3
    obtain ⟨c0, c1, c2, c3, c4, c5, c6, c7, c8, c9⟩ := SpB.spIn (x := x) hX4
    have d0 := blk_cell hC4 0
    have d1 := blk_cell hC4 1
    simp only [List.getElem?_toArray, List.getElem?_cons_succ, List.getElem?_cons_zero] at d0 d1
    go_wp2_with fail
    generalize w3.alloc (.cells #[.int .i64 y', .int .i64 m', .int .i64 d', .int .i64 hr, .int .i64 mn, .int .i64 wk] 36) = w4 at *
    refine (hms y' m' w4 ⟨hD.out.y0, hD.out.y1, hD.out.m0, hD.out.m1⟩).out.mono ?_
    rintro e w5 ⟨rfl, hb⟩
    have hB5 := hB4.trans (hb.mono hB4.size)
    have hX5 := blk_below hX4 hb
    have hC5 := blk_below hC4 hb
    clear c0 c1 c2 c3 c4 c5 c6 c7 c8 c9 d0 d1 hb hX4 hC4 hB4
    obtain ⟨c0, c1, c2, c3, c4, c5, c6, c7, c8, c9⟩ := SpB.spIn (x := x) hX5
    have d2 := blk_cell hC5 2
    have d3 := blk_cell hC5 3
    have d4 := blk_cell hC5 4
    simp only [List.getElem?_toArray, List.getElem?_cons_succ, List.getElem?_cons_zero] at d2 d3 d4
    have hd0 := hD.out.d0
    have hd1 : d' ≤ 31 := Int.le_trans hD.out.d1 (lenI_bd _ _).2

    go_wp2
    go_ret
    exact ⟨rfl, hB5⟩
  cases q2 : hasB x.h.b (t / 60 % 24)
  · rw [q1] at hbit
    rw [q2] at hh
    clear q1 q2
    simp only [Bool.false_eq_true, if_false, if_true, Bool.and_true, Bool.and_false, Bool.true_and, Bool.false_and] at hbit ⊢
    have hh := fun W => Lib.hid (hh W)
    have hmi := fun W => Lib.hid (hmi W)
    clear c0 c1 c2 c3 c4 c5 c6 c7 c8 c9 hX hB hb
    go_wp2_with fail
    refine (ho _).out.mono ?_
    rintro e w3 ⟨y', m', d', hD', rfl, hb⟩
    obtain ⟨rfl, rfl, rfl⟩ := IsDate.inj hD' hD.out
    clear hD'
    generalize t / 60 % 24 = hr at *
    generalize t % 60 = mn at *
    generalize weekI (t / 1440) = wk at *
    have hB3 := hB2.trans (hb.mono hB2.size)
    have hX3 := blk_below hX2 hb
    clear hb hX2 hB2
    have hX4 : SpB (w3.alloc (.cells #[.int .i64 y', .int .i64 m', .int .i64 d', .int .i64 hr, .int .i64 mn, .int .i64 wk] 36)) w.heap.size x := blk_alloc hX3 _
    have hC4 : (w3.alloc (.cells #[.int .i64 y', .int .i64 m', .int .i64 d', .int .i64 hr, .int .i64 mn, .int .i64 wk] 36)).heap[w3.heap.size]? = some (.cells #[.int .i64 y', .int .i64 m', .int .i64 d', .int .i64 hr, .int .i64 mn, .int .i64 wk] 36 (0, 0)) := blk_new _ _
    have hB4 := hB3.alloc hB3.size (.cells #[.int .i64 y', .int .i64 m', .int .i64 d', .int .i64 hr, .int .i64 mn, .int .i64 wk] 36)
    clear hX3 hB3
    obtain ⟨c0, c1, c2, c3, c4, c5, c6, c7, c8, c9⟩ := SpB.spIn (x := x) hX4
    have d0 := blk_cell hC4 0
    have d1 := blk_cell hC4 1
    simp only [List.getElem?_toArray, List.getElem?_cons_succ, List.getElem?_cons_zero] at d0 d1
    go_wp2_with fail
    generalize w3.alloc (.cells #[.int .i64 y', .int .i64 m', .int .i64 d', .int .i64 hr, .int .i64 mn, .int .i64 wk] 36) = w4 at *
    refine (hms y' m' w4 ⟨hD.out.y0, hD.out.y1, hD.out.m0, hD.out.m1⟩).out.mono ?_
    rintro e w5 ⟨rfl, hb⟩
    have hB5 := hB4.trans (hb.mono hB4.size)
    have hX5 := blk_below hX4 hb
    have hC5 := blk_below hC4 hb
    clear c0 c1 c2 c3 c4 c5 c6 c7 c8 c9 d0 d1 hb hX4 hC4 hB4
    obtain ⟨c0, c1, c2, c3, c4, c5, c6, c7, c8, c9⟩ := SpB.spIn (x := x) hX5
    have d2 := blk_cell hC5 2
    have d3 := blk_cell hC5 3
    have d4 := blk_cell hC5 4
    simp only [List.getElem?_toArray, List.getElem?_cons_succ, List.getElem?_cons_zero] at d2 d3 d4
    have hd0 := hD.out.d0
    have hd1 : d' ≤ 31 := Int.le_trans hD.out.d1 (lenI_bd _ _).2

    go_wp2_with fail
    refine (hh _).out.mono ?_
    rintro e w6 ⟨rfl, hb6⟩
    go_wp2
    go_ret
    exact ⟨rfl, hB5.trans (hb6.mono hB5.size)⟩
  cases q3 : hasB x.m.b (t % 60)
  · rw [q1] at hbit
    rw [q2] at hh
    rw [q3] at hmi
    clear q1 q2 q3
    simp only [Bool.false_eq_true, if_false, if_true, Bool.and_true, Bool.and_false, Bool.true_and, Bool.false_and] at hbit ⊢
    have hh := fun W => Lib.hid (hh W)
    have hmi := fun W => Lib.hid (hmi W)
    clear c0 c1 c2 c3 c4 c5 c6 c7 c8 c9 hX hB hb
    go_wp2_with fail
    refine (ho _).out.mono ?_
    rintro e w3 ⟨y', m', d', hD', rfl, hb⟩
    obtain ⟨rfl, rfl, rfl⟩ := IsDate.inj hD' hD.out
    clear hD'
    generalize t / 60 % 24 = hr at *
    generalize t % 60 = mn at *
    generalize weekI (t / 1440) = wk at *
    have hB3 := hB2.trans (hb.mono hB2.size)
    have hX3 := blk_below hX2 hb
    clear hb hX2 hB2
    have hX4 : SpB (w3.alloc (.cells #[.int .i64 y', .int .i64 m', .int .i64 d', .int .i64 hr, .int .i64 mn, .int .i64 wk] 36)) w.heap.size x := blk_alloc hX3 _
    have hC4 : (w3.alloc (.cells #[.int .i64 y', .int .i64 m', .int .i64 d', .int .i64 hr, .int .i64 mn, .int .i64 wk] 36)).heap[w3.heap.size]? = some (.cells #[.int .i64 y', .int .i64 m', .int .i64 d', .int .i64 hr, .int .i64 mn, .int .i64 wk] 36 (0, 0)) := blk_new _ _
    have hB4 := hB3.alloc hB3.size (.cells #[.int .i64 y', .int .i64 m', .int .i64 d', .int .i64 hr, .int .i64 mn, .int .i64 wk] 36)
    clear hX3 hB3
    obtain ⟨c0, c1, c2, c3, c4, c5, c6, c7, c8, c9⟩ := SpB.spIn (x := x) hX4
    have d0 := blk_cell hC4 0
    have d1 := blk_cell hC4 1
    simp only [List.getElem?_toArray, List.getElem?_cons_succ, List.getElem?_cons_zero] at d0 d1
    go_wp2_with fail
    generalize w3.alloc (.cells #[.int .i64 y', .int .i64 m', .int .i64 d', .int .i64 hr, .int .i64 mn, .int .i64 wk] 36) = w4 at *
    refine (hms y' m' w4 ⟨hD.out.y0, hD.out.y1, hD.out.m0, hD.out.m1⟩).out.mono ?_
    rintro e w5 ⟨rfl, hb⟩
    have hB5 := hB4.trans (hb.mono hB4.size)
    have hX5 := blk_below hX4 hb
    have hC5 := blk_below hC4 hb
    clear c0 c1 c2 c3 c4 c5 c6 c7 c8 c9 d0 d1 hb hX4 hC4 hB4
    obtain ⟨c0, c1, c2, c3, c4, c5, c6, c7, c8, c9⟩ := SpB.spIn (x := x) hX5
    have d2 := blk_cell hC5 2
    have d3 := blk_cell hC5 3
    have d4 := blk_cell hC5 4
    simp only [List.getElem?_toArray, List.getElem?_cons_succ, List.getElem?_cons_zero] at d2 d3 d4
    have hd0 := hD.out.d0
    have hd1 : d' ≤ 31 := Int.le_trans hD.out.d1 (lenI_bd _ _).2

    go_wp2_with fail
    refine (hh _).out.mono ?_
    rintro e w6 ⟨rfl, hb6⟩
    have hX6 := blk_below hX5 hb6
    have hC6 := blk_below hC5 hb6
    have e0 := blk_cell hX6 0
    have e1 := blk_cell hX6 1
    have e4 := blk_cell hC6 4
    simp only [List.getElem?_toArray, List.getElem?_cons_succ, List.getElem?_cons_zero] at e0 e1 e4
    go_wp2_with fail
    refine (hmi _).out.mono ?_
    rintro e w7 ⟨rfl, hb7⟩
    go_wp2
    go_ret
    exact ⟨rfl, (hB5.trans (hb6.mono hB5.size)).trans (hb7.mono (by have := hb6.size; have := hB5.size; omega))⟩
  · rw [q1] at hbit
    rw [q2] at hh
    rw [q3] at hmi
    clear q1 q2 q3
    simp only [Bool.false_eq_true, if_false, if_true, Bool.and_true, Bool.and_false, Bool.true_and, Bool.false_and] at hbit ⊢
    have hh := fun W => Lib.hid (hh W)
    have hmi := fun W => Lib.hid (hmi W)
    clear c0 c1 c2 c3 c4 c5 c6 c7 c8 c9 hX hB hb
    go_wp2_with fail
    refine (ho _).out.mono ?_
    rintro e w3 ⟨y', m', d', hD', rfl, hb⟩
    obtain ⟨rfl, rfl, rfl⟩ := IsDate.inj hD' hD.out
    clear hD'
    generalize t / 60 % 24 = hr at *
    generalize t % 60 = mn at *
    generalize weekI (t / 1440) = wk at *
    have hB3 := hB2.trans (hb.mono hB2.size)
    have hX3 := blk_below hX2 hb
    clear hb hX2 hB2
    have hX4 : SpB (w3.alloc (.cells #[.int .i64 y', .int .i64 m', .int .i64 d', .int .i64 hr, .int .i64 mn, .int .i64 wk] 36)) w.heap.size x := blk_alloc hX3 _
    have hC4 : (w3.alloc (.cells #[.int .i64 y', .int .i64 m', .int .i64 d', .int .i64 hr, .int .i64 mn, .int .i64 wk] 36)).heap[w3.heap.size]? = some (.cells #[.int .i64 y', .int .i64 m', .int .i64 d', .int .i64 hr, .int .i64 mn, .int .i64 wk] 36 (0, 0)) := blk_new _ _
    have hB4 := hB3.alloc hB3.size (.cells #[.int .i64 y', .int .i64 m', .int .i64 d', .int .i64 hr, .int .i64 mn, .int .i64 wk] 36)
    clear hX3 hB3
    obtain ⟨c0, c1, c2, c3, c4, c5, c6, c7, c8, c9⟩ := SpB.spIn (x := x) hX4
    have d0 := blk_cell hC4 0
    have d1 := blk_cell hC4 1
    simp only [List.getElem?_toArray, List.getElem?_cons_succ, List.getElem?_cons_zero] at d0 d1
    go_wp2_with fail
    generalize w3.alloc (.cells #[.int .i64 y', .int .i64 m', .int .i64 d', .int .i64 hr, .int .i64 mn, .int .i64 wk] 36) = w4 at *
    refine (hms y' m' w4 ⟨hD.out.y0, hD.out.y1, hD.out.m0, hD.out.m1⟩).out.mono ?_
    rintro e w5 ⟨rfl, hb⟩
    have hB5 := hB4.trans (hb.mono hB4.size)
    have hX5 := blk_below hX4 hb
    have hC5 := blk_below hC4 hb
    clear c0 c1 c2 c3 c4 c5 c6 c7 c8 c9 d0 d1 hb hX4 hC4 hB4
    obtain ⟨c0, c1, c2, c3, c4, c5, c6, c7, c8, c9⟩ := SpB.spIn (x := x) hX5
    have d2 := blk_cell hC5 2
    have d3 := blk_cell hC5 3
    have d4 := blk_cell hC5 4
    simp only [List.getElem?_toArray, List.getElem?_cons_succ, List.getElem?_cons_zero] at d2 d3 d4
    have hd0 := hD.out.d0
    have hd1 : d' ≤ 31 := Int.le_trans hD.out.d1 (lenI_bd _ _).2

    go_wp2_with fail
    refine (hh _).out.mono ?_
    rintro e w6 ⟨rfl, hb6⟩
    have hX6 := blk_below hX5 hb6
    have hC6 := blk_below hC5 hb6
    have e0 := blk_cell hX6 0
    have e1 := blk_cell hX6 1
    have e4 := blk_cell hC6 4
    simp only [List.getElem?_toArray, List.getElem?_cons_succ, List.getElem?_cons_zero] at e0 e1 e4
    go_wp2_with fail
    refine (hmi _).out.mono ?_
    rintro e w7 ⟨rfl, hb7⟩
    go_wp2
    go_ret
    exact ⟨rfl, (hB5.trans (hb6.mono hB5.size)).trans (hb7.mono (by have := hb6.size; have := hB5.size; omega))⟩

theorem parts_any (x : Sp) (t : Int) (w : World) (hx : x.Ok) (hE : Env w) (h8 : 8 ≤ w.heap.size) :
    Calls Tryz.prog 4 #[.agg #[.int .u64 x.m.b, .bool x.m.s, .int .u64 x.h.b, .bool x.h.s, .int .u64 x.d.b, .bool x.d.s, .int .u64 x.n.b, .bool x.n.s, .int .u64 x.w.b, .bool x.w.s], .int .i64 t] w fun e w' => e = .returned (.bool true) ∧ Below w.heap.size w w' := by
  have h2 : ∀ W, Calls Tryz.prog 19 #[.int .i64 t] W fun e w' => (∃ a b c d f g h : Int, e = .returned (.tuple #[.agg #[.int .i64 a, .int .i64 b, .int .i64 c, .int .i64 d, .int .i64 f, .int .i64 g], .int .i64 h])) ∧ Below W.heap.size W w' := fun W => by
    by_cases h : 0 ≤ t ∧ t ≤ 541727999
    · refine (of_ok t W h.1 h.2).mono ?_
      rintro e w' ⟨y, m, d, _, rfl, hb⟩
      exact ⟨⟨_, _, _, _, _, _, _, rfl⟩, hb⟩
    · refine (of_no t W (by omega)).mono ?_
      rintro e w' ⟨rfl, hb⟩
      exact ⟨⟨_, _, _, _, _, _, _, rfl⟩, hb⟩
  by_cases hk : (spChk x).2 = 0
  · by_cases h : 0 ≤ t ∧ t ≤ 541727999
    · exact parts_on x t w hE h8 hx hk h.1 h.2
    · exact parts_off x t 1 w hE h8 rfl (fun W => match_no x t W hx hk (by omega)) h2
  · exact parts_off x t 2 w hE h8 rfl (fun W => match_bad x t W hx hk) h2

end Go.Proofs.YtkdejfedigiohaaGreatDoor
