/- complinelaw21.DayEither: the walk, and why it holds. -/
import Derived.Test.YtkdejfedigiohaaGreatDoorLawM
import Derived.Test.YtkdejfedigiohaaGreatDoorStars
namespace Go.Proofs.YtkdejfedigiohaaGreatDoor
open Go.RowKit Go.Proofs.YtkdejfedigiohaaGreatDoorW.PrintWords Go.Proofs.YtkdejfedigiohaaGreatDoorW.PrintLast Go.Proofs.YtkdejfedigiohaaGreatDoorW.PrintMore
set_option linter.unusedVariables false
set_option linter.unusedSimpArgs false

open Go.Proofs.YtkdejfedigiohaaGreatDoor.PR

def spA (x : Sp) : Sp := ⟨x.m, x.h, ⟨allB 2, true⟩, x.n, x.w⟩
def spB (x : Sp) : Sp := ⟨x.m, x.h, x.d, x.n, ⟨allB 4, true⟩⟩
theorem chk_all (x : Sp) : (spChk x).2 = 0 ↔ (chkI x.m.b x.m.s 0 = 0 ∧ chkI x.h.b x.h.s 1 = 0 ∧ chkI x.d.b x.d.s 2 = 0 ∧ chkI x.n.b x.n.s 3 = 0 ∧ chkI x.w.b x.w.s 4 = 0) := by
  unfold spChk
  by_cases h1 : chkI x.m.b x.m.s 0 = 0 <;> by_cases h2 : chkI x.h.b x.h.s 1 = 0 <;> by_cases h3 : chkI x.d.b x.d.s 2 = 0 <;> by_cases h4 : chkI x.n.b x.n.s 3 = 0 <;> by_cases h5 : chkI x.w.b x.w.s 4 = 0 <;> simp [h1, h2, h3, h4, h5]
theorem spA_chk (x : Sp) (h : (spChk x).2 = 0) : (spChk (spA x)).2 = 0 := by
  rw [chk_all] at h ⊢
  exact ⟨h.1, h.2.1, show chkI (allB 2) true 2 = 0 by decide +kernel, h.2.2.2.1, h.2.2.2.2⟩
theorem spB_chk (x : Sp) (h : (spChk x).2 = 0) : (spChk (spB x)).2 = 0 := by
  rw [chk_all] at h ⊢
  exact ⟨h.1, h.2.1, h.2.2.1, h.2.2.2.1, show chkI (allB 4) true 4 = 0 by decide +kernel⟩
theorem spA_ok (x : Sp) (h : x.Ok) : (spA x).Ok := ⟨h.m, h.h, show U64 (allB 2) by unfold U64; decide, h.n, h.w⟩
theorem spB_ok (x : Sp) (h : x.Ok) : (spB x).Ok := ⟨h.m, h.h, h.d, h.n, show U64 (allB 4) by unfold U64; decide⟩
theorem all_d (d : Int) (h0 : 1 ≤ d) (h1 : d ≤ 31) : hasB (allB 2) d = true := by
  have ht : ∀ n, n < 32 → 1 ≤ n → Nat.testBit 4294967294 n = true := by decide
  unfold hasB
  simp only [Bool.and_eq_true, decide_eq_true_eq]
  exact ⟨by omega, by omega, ht d.toNat (by omega) (by omega)⟩
theorem all_w (d : Int) (h0 : 0 ≤ d) (h1 : d ≤ 6) : hasB (allB 4) d = true := by
  have ht : ∀ n, n < 7 → Nat.testBit 127 n = true := by decide
  unfold hasB
  simp only [Bool.and_eq_true, decide_eq_true_eq]
  exact ⟨by omega, by omega, ht d.toNat (by omega)⟩
theorem dayBit_A (x : Sp) (y m d : Int) (h0 : 1 ≤ d) (h1 : d ≤ 31) : dayBit (spA x) y m d = (hasB x.n.b m && hasB x.w.b (weekI (firstI y m + d - 1))) := by
  unfold dayBit dayOn
  rw [show starless (spA x) = false from rfl]
  simp only [Bool.false_eq_true, if_false]
  unfold dayAnd
  rw [show (spA x).d.b = allB 2 from rfl, all_d d h0 h1]
  simp [spA]
theorem dayBit_B (x : Sp) (y m d : Int) : dayBit (spB x) y m d = (hasB x.n.b m && hasB x.d.b d) := by
  unfold dayBit dayOn
  rw [show starless (spB x) = false by unfold starless spB; simp]
  simp only [Bool.false_eq_true, if_false]
  unfold dayAnd
  rw [show (spB x).w.b = allB 4 from rfl, all_w _ (by unfold weekI; omega) (by unfold weekI; omega)]
  simp [spB]
theorem either_or (x : Sp) (y m : Int) (h1 : x.d.s = false) (h2 : x.w.s = false) : maskI x y m = maskI (spA x) y m ||| maskI (spB x) y m := by
  apply Nat.eq_of_testBit_eq
  intro i
  rw [Nat.testBit_or, maskI_bit, maskI_bit, maskI_bit]
  by_cases hi : 1 ≤ (i : Int) ∧ (i : Int) ≤ lenI y m
  · rw [dayBit_A x y m i hi.1 (by have := lenI_bd y m; omega), dayBit_B]
    unfold dayBit dayOn
    rw [show starless x = true by unfold starless; rw [h1, h2]; rfl, if_pos rfl]
    unfold dayOr
    cases hasB x.n.b m <;> cases hasB x.d.b i <;> cases hasB x.w.b (weekI (firstI y m + i - 1)) <;> simp
  · rw [show decide (1 ≤ (i : Int) ∧ (i : Int) ≤ lenI y m) = false by simpa using hi]; rfl
theorem either_and (x : Sp) (y m : Int) (h : ¬ (x.d.s = false ∧ x.w.s = false)) : maskI x y m = maskI (spA x) y m &&& maskI (spB x) y m := by
  apply Nat.eq_of_testBit_eq
  intro i
  rw [Nat.testBit_and, maskI_bit, maskI_bit, maskI_bit]
  by_cases hi : 1 ≤ (i : Int) ∧ (i : Int) ≤ lenI y m
  · rw [dayBit_A x y m i hi.1 (by have := lenI_bd y m; omega), dayBit_B]
    unfold dayBit dayOn
    rw [show starless x = false by unfold starless; cases h1 : x.d.s <;> cases h2 : x.w.s <;> simp_all]
    simp only [Bool.false_eq_true, if_false]
    unfold dayAnd
    cases hasB x.n.b m <;> cases hasB x.d.b i <;> cases hasB x.w.b (weekI (firstI y m + i - 1)) <;> simp
  · rw [show decide (1 ≤ (i : Int) ∧ (i : Int) ≤ lenI y m) = false by simpa using hi]; rfl
theorem bits_or32 (a b : Nat) (h : a < 2 ^ 32) (k : b < 2 ^ 32) : bits .or .u32 (a : Int) (b : Int) = ((a ||| b : Nat) : Int) := (bits_nat .u32 32 (by decide) (fun n a b => by rw [IntKind.wrap_u32]; omega) a b h k).2
theorem bits_and32 (a b : Nat) (h : a < 2 ^ 32) (k : b < 2 ^ 32) : bits .and .u32 (a : Int) (b : Int) = ((a &&& b : Nat) : Int) := (bits_nat .u32 32 (by decide) (fun n a b => by rw [IntKind.wrap_u32]; omega) a b h k).1

set_option maxRecDepth 100000 in
set_option maxHeartbeats 2000000 in
theorem either_walk (x : Sp) (y m M er : Int) (w : World) (hE : Env w) (h8 : 8 ≤ w.heap.size) (Post : Prop)
    (hm : ∀ W, Calls Tryz.prog 20 #[.agg #[.int .u64 x.m.b, .bool x.m.s, .int .u64 x.h.b, .bool x.h.s, .int .u64 x.d.b, .bool x.d.s, .int .u64 x.n.b, .bool x.n.s, .int .u64 x.w.b, .bool x.w.s], .int .i64 y, .int .i64 m] W fun e w' => e = .returned (.tuple #[.int .u32 M, .int .i64 er]) ∧ Below W.heap.size W w')
    (hM : (M == 0) = true) (her : (er != 0) = true) :
    Calls Tryz.prog 7 #[.agg #[.int .u64 x.m.b, .bool x.m.s, .int .u64 x.h.b, .bool x.h.s, .int .u64 x.d.b, .bool x.d.s, .int .u64 x.n.b, .bool x.n.s, .int .u64 x.w.b, .bool x.w.s], .int .i64 y, .int .i64 m] w fun e w' => e = .returned (.bool true) ∧ Below w.heap.size w w' := by
  have hm := fun W => Lib.hid (hm W)
  go_enter Tryz.func7, Tryz.ntmps7
  go_wp2_with fail
  have hb0 : Below w.heap.size w (w.alloc (.cells #[.int .u64 x.m.b, .bool x.m.s, .int .u64 x.h.b, .bool x.h.s, .int .u64 x.d.b, .bool x.d.s, .int .u64 x.n.b, .bool x.n.s, .int .u64 x.w.b, .bool x.w.s] 26)) := (Below.refl _ _).alloc (Nat.le_refl _) _
  refine (works_ok _ (hE.below hb0) (Nat.le_trans h8 hb0.size)).mono ?_
  rintro e w1 ⟨rfl, hb⟩
  have hX := blk_below (boxed w x) hb
  have hB := hb0.trans (hb.mono hb0.size)
  clear hb hb0
  go_wp2_with fail
  refine (stars_any _).mono ?_
  rintro e w2 ⟨rfl, hb⟩
  have hX2 : SpB (w2.alloc (.cells #[.int .u64 spStars.m.b, .bool spStars.m.s, .int .u64 spStars.h.b, .bool spStars.h.s, .int .u64 spStars.d.b, .bool spStars.d.s, .int .u64 spStars.n.b, .bool spStars.n.s, .int .u64 spStars.w.b, .bool spStars.w.s] 26)) w.heap.size x := blk_alloc (blk_below hX hb) _
  have hS2 : SpB (w2.alloc (.cells #[.int .u64 spStars.m.b, .bool spStars.m.s, .int .u64 spStars.h.b, .bool spStars.h.s, .int .u64 spStars.d.b, .bool spStars.d.s, .int .u64 spStars.n.b, .bool spStars.n.s, .int .u64 spStars.w.b, .bool spStars.w.s] 26)) w2.heap.size spStars := blk_new _ _
  have hB2 : Below w.heap.size w (w2.alloc (.cells #[.int .u64 spStars.m.b, .bool spStars.m.s, .int .u64 spStars.h.b, .bool spStars.h.s, .int .u64 spStars.d.b, .bool spStars.d.s, .int .u64 spStars.n.b, .bool spStars.n.s, .int .u64 spStars.w.b, .bool spStars.w.s] 26)) := (hB.trans (hb.mono hB.size)).alloc (by have := hB.size; have := hb.size; omega) _
  clear hb hX hB
  obtain ⟨c0, c1, c2, c3, c4, c5, c6, c7, c8, c9⟩ := SpB.spIn (x := x) hX2
  have e4 : (w2.alloc (.cells #[.int .u64 spStars.m.b, .bool spStars.m.s, .int .u64 spStars.h.b, .bool spStars.h.s, .int .u64 spStars.d.b, .bool spStars.d.s, .int .u64 spStars.n.b, .bool spStars.n.s, .int .u64 spStars.w.b, .bool spStars.w.s] 26)).cell? ⟨w2.heap.size, 4, none⟩ = some (.int .u64 (allB 2)) := blk_cell hS2 4
  have e5 : (w2.alloc (.cells #[.int .u64 spStars.m.b, .bool spStars.m.s, .int .u64 spStars.h.b, .bool spStars.h.s, .int .u64 spStars.d.b, .bool spStars.d.s, .int .u64 spStars.n.b, .bool spStars.n.s, .int .u64 spStars.w.b, .bool spStars.w.s] 26)).cell? ⟨w2.heap.size, 5, none⟩ = some (.bool true) := blk_cell hS2 5
  go_wp2_with fail
  generalize w2.alloc (.cells #[.int .u64 spStars.m.b, .bool spStars.m.s, .int .u64 spStars.h.b, .bool spStars.h.s, .int .u64 spStars.d.b, .bool spStars.d.s, .int .u64 spStars.n.b, .bool spStars.n.s, .int .u64 spStars.w.b, .bool spStars.w.s] 26) = v2 at *
  refine (with2 x (allB 2) true _).mono ?_
  rintro e w3 ⟨rfl, hb⟩
  have hX3 : SpB (w3.alloc (.cells #[.int .u64 x.m.b, .bool x.m.s, .int .u64 x.h.b, .bool x.h.s, .int .u64 (allB 2), .bool true, .int .u64 x.n.b, .bool x.n.s, .int .u64 x.w.b, .bool x.w.s] 26)) w.heap.size x := blk_alloc (blk_below hX2 hb) _
  have hS3 : SpB (w3.alloc (.cells #[.int .u64 x.m.b, .bool x.m.s, .int .u64 x.h.b, .bool x.h.s, .int .u64 (allB 2), .bool true, .int .u64 x.n.b, .bool x.n.s, .int .u64 x.w.b, .bool x.w.s] 26)) w2.heap.size spStars := blk_alloc (blk_below hS2 hb) _
  have hA3 : SpB (w3.alloc (.cells #[.int .u64 x.m.b, .bool x.m.s, .int .u64 x.h.b, .bool x.h.s, .int .u64 (allB 2), .bool true, .int .u64 x.n.b, .bool x.n.s, .int .u64 x.w.b, .bool x.w.s] 26)) w3.heap.size (spA x) := blk_new _ _
  have hB3 : Below w.heap.size w (w3.alloc (.cells #[.int .u64 x.m.b, .bool x.m.s, .int .u64 x.h.b, .bool x.h.s, .int .u64 (allB 2), .bool true, .int .u64 x.n.b, .bool x.n.s, .int .u64 x.w.b, .bool x.w.s] 26)) := (hB2.trans (hb.mono hB2.size)).alloc (by have := hB2.size; have := hb.size; omega) _
  clear c0 c1 c2 c3 c4 c5 c6 c7 c8 c9 e4 e5 hb hX2 hS2 hB2
  obtain ⟨c0, c1, c2, c3, c4, c5, c6, c7, c8, c9⟩ := SpB.spIn (x := x) hX3
  have e4 : (w3.alloc (.cells #[.int .u64 x.m.b, .bool x.m.s, .int .u64 x.h.b, .bool x.h.s, .int .u64 (allB 2), .bool true, .int .u64 x.n.b, .bool x.n.s, .int .u64 x.w.b, .bool x.w.s] 26)).cell? ⟨w2.heap.size, 8, none⟩ = some (.int .u64 (allB 4)) := blk_cell hS3 8
  have e5 : (w3.alloc (.cells #[.int .u64 x.m.b, .bool x.m.s, .int .u64 x.h.b, .bool x.h.s, .int .u64 (allB 2), .bool true, .int .u64 x.n.b, .bool x.n.s, .int .u64 x.w.b, .bool x.w.s] 26)).cell? ⟨w2.heap.size, 9, none⟩ = some (.bool true) := blk_cell hS3 9
  go_wp2_with fail
  generalize w3.alloc (.cells #[.int .u64 x.m.b, .bool x.m.s, .int .u64 x.h.b, .bool x.h.s, .int .u64 (allB 2), .bool true, .int .u64 x.n.b, .bool x.n.s, .int .u64 x.w.b, .bool x.w.s] 26) = v3 at *
  refine (with4 x (allB 4) true _).mono ?_
  rintro e w4 ⟨rfl, hb⟩
  have hX4 : SpB (w4.alloc (.cells #[.int .u64 x.m.b, .bool x.m.s, .int .u64 x.h.b, .bool x.h.s, .int .u64 x.d.b, .bool x.d.s, .int .u64 x.n.b, .bool x.n.s, .int .u64 (allB 4), .bool true] 26)) w.heap.size x := blk_alloc (blk_below hX3 hb) _
  have hA4 : SpB (w4.alloc (.cells #[.int .u64 x.m.b, .bool x.m.s, .int .u64 x.h.b, .bool x.h.s, .int .u64 x.d.b, .bool x.d.s, .int .u64 x.n.b, .bool x.n.s, .int .u64 (allB 4), .bool true] 26)) w3.heap.size (spA x) := blk_alloc (blk_below hA3 hb) _
  have hBk4 : SpB (w4.alloc (.cells #[.int .u64 x.m.b, .bool x.m.s, .int .u64 x.h.b, .bool x.h.s, .int .u64 x.d.b, .bool x.d.s, .int .u64 x.n.b, .bool x.n.s, .int .u64 (allB 4), .bool true] 26)) w4.heap.size (spB x) := blk_new _ _
  have hB4 : Below w.heap.size w (w4.alloc (.cells #[.int .u64 x.m.b, .bool x.m.s, .int .u64 x.h.b, .bool x.h.s, .int .u64 x.d.b, .bool x.d.s, .int .u64 x.n.b, .bool x.n.s, .int .u64 (allB 4), .bool true] 26)) := (hB3.trans (hb.mono hB3.size)).alloc (by have := hB3.size; have := hb.size; omega) _
  clear c0 c1 c2 c3 c4 c5 c6 c7 c8 c9 e4 e5 hb hX3 hS3 hA3 hB3
  obtain ⟨c0, c1, c2, c3, c4, c5, c6, c7, c8, c9⟩ := SpB.spIn (x := x) hX4
  go_wp2_with fail
  generalize w4.alloc (.cells #[.int .u64 x.m.b, .bool x.m.s, .int .u64 x.h.b, .bool x.h.s, .int .u64 x.d.b, .bool x.d.s, .int .u64 x.n.b, .bool x.n.s, .int .u64 (allB 4), .bool true] 26) = v4 at *
  refine (hm _).out.mono ?_
  rintro e w5 ⟨rfl, hb⟩
  have hX5 := blk_below hX4 hb
  have hA5 := blk_below hA4 hb
  have hBk5 := blk_below hBk4 hb
  have hB5 := hB4.trans (hb.mono hB4.size)
  clear c0 c1 c2 c3 c4 c5 c6 c7 c8 c9 hb hX4 hA4 hBk4 hB4
  go_wp2
  go_ret
  exact ⟨rfl, hB5⟩

set_option maxRecDepth 100000 in
set_option maxHeartbeats 2000000 in
theorem either_on (x : Sp) (y m : Int) (w : World) (hE : Env w) (h8 : 8 ≤ w.heap.size) (p q r : Bool) (hp : x.d.s = p) (hq : x.w.s = q)
    (ho : (p || q) = r) (hres : (maskI x y m : Int) = if r = true then bits .and .u32 (maskI (spA x) y m) (maskI (spB x) y m) else bits .or .u32 (maskI (spA x) y m) (maskI (spB x) y m))
    (hm : ∀ W, Calls Tryz.prog 20 #[.agg #[.int .u64 x.m.b, .bool x.m.s, .int .u64 x.h.b, .bool x.h.s, .int .u64 x.d.b, .bool x.d.s, .int .u64 x.n.b, .bool x.n.s, .int .u64 x.w.b, .bool x.w.s], .int .i64 y, .int .i64 m] W fun e w' => e = .returned (.tuple #[.int .u32 (maskI x y m), .int .i64 0]) ∧ Below W.heap.size W w')
    (hma : ∀ W, Calls Tryz.prog 20 #[.agg #[.int .u64 x.m.b, .bool x.m.s, .int .u64 x.h.b, .bool x.h.s, .int .u64 (allB 2), .bool true, .int .u64 x.n.b, .bool x.n.s, .int .u64 x.w.b, .bool x.w.s], .int .i64 y, .int .i64 m] W fun e w' => e = .returned (.tuple #[.int .u32 (maskI (spA x) y m), .int .i64 0]) ∧ Below W.heap.size W w')
    (hmb : ∀ W, Calls Tryz.prog 20 #[.agg #[.int .u64 x.m.b, .bool x.m.s, .int .u64 x.h.b, .bool x.h.s, .int .u64 x.d.b, .bool x.d.s, .int .u64 x.n.b, .bool x.n.s, .int .u64 (allB 4), .bool true], .int .i64 y, .int .i64 m] W fun e w' => e = .returned (.tuple #[.int .u32 (maskI (spB x) y m), .int .i64 0]) ∧ Below W.heap.size W w') :
    Calls Tryz.prog 7 #[.agg #[.int .u64 x.m.b, .bool x.m.s, .int .u64 x.h.b, .bool x.h.s, .int .u64 x.d.b, .bool x.d.s, .int .u64 x.n.b, .bool x.n.s, .int .u64 x.w.b, .bool x.w.s], .int .i64 y, .int .i64 m] w fun e w' => e = .returned (.bool true) ∧ Below w.heap.size w w' := by
  have hm := fun W => Lib.hid (hm W)
  have hma := fun W => Lib.hid (hma W)
  have hmb := fun W => Lib.hid (hmb W)
  have hpH := Lib.hid hp
  have hqH := Lib.hid hq
  have hoH := Lib.hid ho
  have hrH := Lib.hid hres
  clear hp hq ho hres
  go_enter Tryz.func7, Tryz.ntmps7
  go_wp2_with fail
  have hb0 : Below w.heap.size w (w.alloc (.cells #[.int .u64 x.m.b, .bool x.m.s, .int .u64 x.h.b, .bool x.h.s, .int .u64 x.d.b, .bool x.d.s, .int .u64 x.n.b, .bool x.n.s, .int .u64 x.w.b, .bool x.w.s] 26)) := (Below.refl _ _).alloc (Nat.le_refl _) _
  refine (works_ok _ (hE.below hb0) (Nat.le_trans h8 hb0.size)).mono ?_
  rintro e w1 ⟨rfl, hb⟩
  have hX := blk_below (boxed w x) hb
  have hB := hb0.trans (hb.mono hb0.size)
  clear hb hb0
  go_wp2_with fail
  refine (stars_any _).mono ?_
  rintro e w2 ⟨rfl, hb⟩
  have hX2 : SpB (w2.alloc (.cells #[.int .u64 spStars.m.b, .bool spStars.m.s, .int .u64 spStars.h.b, .bool spStars.h.s, .int .u64 spStars.d.b, .bool spStars.d.s, .int .u64 spStars.n.b, .bool spStars.n.s, .int .u64 spStars.w.b, .bool spStars.w.s] 26)) w.heap.size x := blk_alloc (blk_below hX hb) _
  have hS2 : SpB (w2.alloc (.cells #[.int .u64 spStars.m.b, .bool spStars.m.s, .int .u64 spStars.h.b, .bool spStars.h.s, .int .u64 spStars.d.b, .bool spStars.d.s, .int .u64 spStars.n.b, .bool spStars.n.s, .int .u64 spStars.w.b, .bool spStars.w.s] 26)) w2.heap.size spStars := blk_new _ _
  have hB2 : Below w.heap.size w (w2.alloc (.cells #[.int .u64 spStars.m.b, .bool spStars.m.s, .int .u64 spStars.h.b, .bool spStars.h.s, .int .u64 spStars.d.b, .bool spStars.d.s, .int .u64 spStars.n.b, .bool spStars.n.s, .int .u64 spStars.w.b, .bool spStars.w.s] 26)) := (hB.trans (hb.mono hB.size)).alloc (by have := hB.size; have := hb.size; omega) _
  clear hb hX hB
  obtain ⟨c0, c1, c2, c3, c4, c5, c6, c7, c8, c9⟩ := SpB.spIn (x := x) hX2
  have e4 : (w2.alloc (.cells #[.int .u64 spStars.m.b, .bool spStars.m.s, .int .u64 spStars.h.b, .bool spStars.h.s, .int .u64 spStars.d.b, .bool spStars.d.s, .int .u64 spStars.n.b, .bool spStars.n.s, .int .u64 spStars.w.b, .bool spStars.w.s] 26)).cell? ⟨w2.heap.size, 4, none⟩ = some (.int .u64 (allB 2)) := blk_cell hS2 4
  have e5 : (w2.alloc (.cells #[.int .u64 spStars.m.b, .bool spStars.m.s, .int .u64 spStars.h.b, .bool spStars.h.s, .int .u64 spStars.d.b, .bool spStars.d.s, .int .u64 spStars.n.b, .bool spStars.n.s, .int .u64 spStars.w.b, .bool spStars.w.s] 26)).cell? ⟨w2.heap.size, 5, none⟩ = some (.bool true) := blk_cell hS2 5
  go_wp2_with fail
  generalize w2.alloc (.cells #[.int .u64 spStars.m.b, .bool spStars.m.s, .int .u64 spStars.h.b, .bool spStars.h.s, .int .u64 spStars.d.b, .bool spStars.d.s, .int .u64 spStars.n.b, .bool spStars.n.s, .int .u64 spStars.w.b, .bool spStars.w.s] 26) = v2 at *
  refine (with2 x (allB 2) true _).mono ?_
  rintro e w3 ⟨rfl, hb⟩
  have hX3 : SpB (w3.alloc (.cells #[.int .u64 x.m.b, .bool x.m.s, .int .u64 x.h.b, .bool x.h.s, .int .u64 (allB 2), .bool true, .int .u64 x.n.b, .bool x.n.s, .int .u64 x.w.b, .bool x.w.s] 26)) w.heap.size x := blk_alloc (blk_below hX2 hb) _
  have hS3 : SpB (w3.alloc (.cells #[.int .u64 x.m.b, .bool x.m.s, .int .u64 x.h.b, .bool x.h.s, .int .u64 (allB 2), .bool true, .int .u64 x.n.b, .bool x.n.s, .int .u64 x.w.b, .bool x.w.s] 26)) w2.heap.size spStars := blk_alloc (blk_below hS2 hb) _
  have hA3 : SpB (w3.alloc (.cells #[.int .u64 x.m.b, .bool x.m.s, .int .u64 x.h.b, .bool x.h.s, .int .u64 (allB 2), .bool true, .int .u64 x.n.b, .bool x.n.s, .int .u64 x.w.b, .bool x.w.s] 26)) w3.heap.size (spA x) := blk_new _ _
  have hB3 : Below w.heap.size w (w3.alloc (.cells #[.int .u64 x.m.b, .bool x.m.s, .int .u64 x.h.b, .bool x.h.s, .int .u64 (allB 2), .bool true, .int .u64 x.n.b, .bool x.n.s, .int .u64 x.w.b, .bool x.w.s] 26)) := (hB2.trans (hb.mono hB2.size)).alloc (by have := hB2.size; have := hb.size; omega) _
  clear c0 c1 c2 c3 c4 c5 c6 c7 c8 c9 e4 e5 hb hX2 hS2 hB2
  obtain ⟨c0, c1, c2, c3, c4, c5, c6, c7, c8, c9⟩ := SpB.spIn (x := x) hX3
  have e4 : (w3.alloc (.cells #[.int .u64 x.m.b, .bool x.m.s, .int .u64 x.h.b, .bool x.h.s, .int .u64 (allB 2), .bool true, .int .u64 x.n.b, .bool x.n.s, .int .u64 x.w.b, .bool x.w.s] 26)).cell? ⟨w2.heap.size, 8, none⟩ = some (.int .u64 (allB 4)) := blk_cell hS3 8
  have e5 : (w3.alloc (.cells #[.int .u64 x.m.b, .bool x.m.s, .int .u64 x.h.b, .bool x.h.s, .int .u64 (allB 2), .bool true, .int .u64 x.n.b, .bool x.n.s, .int .u64 x.w.b, .bool x.w.s] 26)).cell? ⟨w2.heap.size, 9, none⟩ = some (.bool true) := blk_cell hS3 9
  go_wp2_with fail
  generalize w3.alloc (.cells #[.int .u64 x.m.b, .bool x.m.s, .int .u64 x.h.b, .bool x.h.s, .int .u64 (allB 2), .bool true, .int .u64 x.n.b, .bool x.n.s, .int .u64 x.w.b, .bool x.w.s] 26) = v3 at *
  refine (with4 x (allB 4) true _).mono ?_
  rintro e w4 ⟨rfl, hb⟩
  have hX4 : SpB (w4.alloc (.cells #[.int .u64 x.m.b, .bool x.m.s, .int .u64 x.h.b, .bool x.h.s, .int .u64 x.d.b, .bool x.d.s, .int .u64 x.n.b, .bool x.n.s, .int .u64 (allB 4), .bool true] 26)) w.heap.size x := blk_alloc (blk_below hX3 hb) _
  have hA4 : SpB (w4.alloc (.cells #[.int .u64 x.m.b, .bool x.m.s, .int .u64 x.h.b, .bool x.h.s, .int .u64 x.d.b, .bool x.d.s, .int .u64 x.n.b, .bool x.n.s, .int .u64 (allB 4), .bool true] 26)) w3.heap.size (spA x) := blk_alloc (blk_below hA3 hb) _
  have hBk4 : SpB (w4.alloc (.cells #[.int .u64 x.m.b, .bool x.m.s, .int .u64 x.h.b, .bool x.h.s, .int .u64 x.d.b, .bool x.d.s, .int .u64 x.n.b, .bool x.n.s, .int .u64 (allB 4), .bool true] 26)) w4.heap.size (spB x) := blk_new _ _
  have hB4 : Below w.heap.size w (w4.alloc (.cells #[.int .u64 x.m.b, .bool x.m.s, .int .u64 x.h.b, .bool x.h.s, .int .u64 x.d.b, .bool x.d.s, .int .u64 x.n.b, .bool x.n.s, .int .u64 (allB 4), .bool true] 26)) := (hB3.trans (hb.mono hB3.size)).alloc (by have := hB3.size; have := hb.size; omega) _
  clear c0 c1 c2 c3 c4 c5 c6 c7 c8 c9 e4 e5 hb hX3 hS3 hA3 hB3
  obtain ⟨c0, c1, c2, c3, c4, c5, c6, c7, c8, c9⟩ := SpB.spIn (x := x) hX4
  go_wp2_with fail
  generalize w4.alloc (.cells #[.int .u64 x.m.b, .bool x.m.s, .int .u64 x.h.b, .bool x.h.s, .int .u64 x.d.b, .bool x.d.s, .int .u64 x.n.b, .bool x.n.s, .int .u64 (allB 4), .bool true] 26) = v4 at *
  refine (hm _).out.mono ?_
  rintro e w5 ⟨rfl, hb⟩
  have hX5 := blk_below hX4 hb
  have hA5 := blk_below hA4 hb
  have hBk5 := blk_below hBk4 hb
  have hB5 := hB4.trans (hb.mono hB4.size)
  clear c0 c1 c2 c3 c4 c5 c6 c7 c8 c9 hb hX4 hA4 hBk4 hB4
  obtain ⟨c0, c1, c2, c3, c4, c5, c6, c7, c8, c9⟩ := SpB.spIn (x := spA x) hA5
  go_wp2_with fail
  refine (hma _).out.mono ?_
  rintro e w6 ⟨rfl, hb⟩
  have hX6 := blk_below hX5 hb
  have hBk6 := blk_below hBk5 hb
  have hB6 := hB5.trans (hb.mono hB5.size)
  clear c0 c1 c2 c3 c4 c5 c6 c7 c8 c9 hX5 hA5 hBk5 hB5 hb
  obtain ⟨c0, c1, c2, c3, c4, c5, c6, c7, c8, c9⟩ := SpB.spIn (x := spB x) hBk6
  go_wp2_with fail
  refine (hmb _).out.mono ?_
  rintro e w7 ⟨rfl, hb⟩
  have hX7 := blk_below hX6 hb
  have hB7 := hB6.trans (hb.mono hB6.size)
  clear c0 c1 c2 c3 c4 c5 c6 c7 c8 c9 hX6 hBk6 hB6 hb
  obtain ⟨c0, c1, c2, c3, c4, c5, c6, c7, c8, c9⟩ := SpB.spIn (x := x) hX7
  rw [hpH.out] at c5
  rw [hqH.out] at c9
  have hres := hrH.out
  have ho := hoH.out
  clear hpH hqH hrH hoH hX7
  generalize (maskI x y m : Int) = M0 at *
  generalize (maskI (spA x) y m : Int) = M1 at *
  generalize (maskI (spB x) y m : Int) = M2 at *
  subst hres
  cases p <;> cases q
  all_goals
    simp only [Bool.or_false, Bool.or_true] at ho
    subst ho
    simp only [Bool.false_eq_true, if_false, if_true]
    go_wp2
    go_ret
    exact ⟨ret_bool (by simp), hB7⟩

theorem either_any (x : Sp) (y m : Int) (w : World) (hx : x.Ok) (hE : Env w) (h8 : 8 ≤ w.heap.size) :
    Calls Tryz.prog 7 #[.agg #[.int .u64 x.m.b, .bool x.m.s, .int .u64 x.h.b, .bool x.h.s, .int .u64 x.d.b, .bool x.d.s, .int .u64 x.n.b, .bool x.n.s, .int .u64 x.w.b, .bool x.w.s], .int .i64 y, .int .i64 m] w fun e w' => e = .returned (.bool true) ∧ Below w.heap.size w w' := by
  by_cases hk : (spChk x).2 = 0
  · by_cases h : MonthOk y m
    · refine either_on x y m w hE h8 _ _ _ rfl rfl rfl ?_ (fun W => mask_ok x y m W hx hk h) (fun W => mask_ok (spA x) y m W (spA_ok x hx) (spA_chk x hk) h) (fun W => mask_ok (spB x) y m W (spB_ok x hx) (spB_chk x hk) h)
      rw [bits_and32 _ _ (maskI_lt _ _ _) (maskI_lt _ _ _), bits_or32 _ _ (maskI_lt _ _ _) (maskI_lt _ _ _)]
      by_cases hs : x.d.s = false ∧ x.w.s = false
      · rw [if_neg (by rw [hs.1, hs.2]; decide), ← either_or x y m hs.1 hs.2]
      · rw [if_pos (by cases h1 : x.d.s <;> cases h2 : x.w.s <;> simp_all), ← either_and x y m hs]
    · exact either_walk x y m 0 1 w hE h8 True (fun W => mask_no x y m W hx hk h) rfl rfl
  · exact either_walk x y m 0 2 w hE h8 True (fun W => mask_bad x y m W hx hk) rfl rfl

end Go.Proofs.YtkdejfedigiohaaGreatDoor
