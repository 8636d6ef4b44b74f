import Derived.Test.YtkdejfedigiohaaGreatDoorDayP
import Derived.Test.YtkdejfedigiohaaGreatDoorPRx5
import Derived.Test.YtkdejfedigiohaaGreatDoorDayQ
/- math/bits.OnesCount64, as printed, is how many bits are set. Plain Lean. -/
namespace Go.Proofs.YtkdejfedigiohaaGreatDoor
open Go.RowKit Go.Proofs.YtkdejfedigiohaaGreatDoorW.PrintWords Go.Proofs.YtkdejfedigiohaaGreatDoorW.PrintLast Go.Proofs.YtkdejfedigiohaaGreatDoorW.PrintMore
set_option linter.unusedVariables false
set_option linter.unusedSimpArgs false

open Go.Proofs.YtkdejfedigiohaaGreatDoor.PR

def dg (w : Nat) : List Nat → Nat
  | [] => 0
  | d :: r => d + 2 ^ w * dg w r
def evens : List Nat → List Nat
  | [] => []
  | [a] => [a]
  | a :: _ :: r => a :: evens r
def fold2 : List Nat → List Nat
  | [] => []
  | [a] => [a]
  | a :: b :: r => (a + b) :: fold2 r
def zadd : List Nat → List Nat
  | [] => []
  | [a] => [a]
  | a :: b :: r => (a + b) :: zadd (b :: r)
/-- The lowest n bits. -/
def bitsFrom (B : Nat) : Nat → List Nat
  | 0 => []
  | n + 1 => B % 2 :: bitsFrom (B / 2) n

theorem and_split (i a x c y : Nat) (ha : a < 2 ^ i) (hc : c < 2 ^ i) : (a + 2 ^ i * x) &&& (c + 2 ^ i * y) = (a &&& c) + 2 ^ i * (x &&& y) := by
  apply Nat.eq_of_testBit_eq
  intro j
  rw [Nat.add_comm a, Nat.add_comm c, Nat.add_comm (a &&& c), Nat.testBit_and, Nat.testBit_two_pow_mul_add _ ha, Nat.testBit_two_pow_mul_add _ hc, Nat.testBit_two_pow_mul_add _ (Nat.and_lt_two_pow _ hc)]
  split <;> rw [Nat.testBit_and]
theorem evens_cons (b : Nat) (r : List Nat) : evens (b :: r) = b :: evens r.tail := by cases r <;> rfl
theorem dg_tail (w a : Nat) (r : List Nat) (h : a < 2 ^ w) : dg w (a :: r) / 2 ^ w = dg w r := by
  simp only [dg]
  rw [Nat.add_mul_div_left _ _ (Nat.two_pow_pos w), Nat.div_eq_of_lt h, Nat.zero_add]
theorem dg_div (w : Nat) (L : List Nat) (h : ∀ d ∈ L, d < 2 ^ w) : dg w L / 2 ^ w = dg w L.tail := by
  cases L with
  | nil => simp [dg]
  | cons a r => exact dg_tail w a r (h a (by simp))
theorem dg_lt (w : Nat) (L : List Nat) (h : ∀ d ∈ L, d < 2 ^ w) : dg w L < 2 ^ (w * L.length) := by
  induction L with
  | nil => simp [dg]
  | cons a r ih =>
    have h1 := h a (by simp)
    have h2 := ih (fun d hd => h d (by simp [hd]))
    simp only [dg, List.length_cons]
    rw [Nat.mul_succ, Nat.add_comm (w * r.length), Nat.pow_add]
    calc a + 2 ^ w * dg w r < 2 ^ w * (dg w r + 1) := by rw [Nat.mul_succ]; omega
      _ ≤ 2 ^ w * 2 ^ (w * r.length) := Nat.mul_le_mul_left _ h2
theorem dg_mask (w : Nat) : ∀ (n : Nat) (L : List Nat), L.length ≤ 2 * n → (∀ d ∈ L, d < 2 ^ w) → dg w L &&& dg (2 * w) (List.replicate n (2 ^ w - 1)) = dg (2 * w) (evens L)
  | 0, L, hl, _ => by
    obtain rfl : L = [] := List.eq_nil_of_length_eq_zero (by omega)
    simp [dg, evens]
  | n + 1, L, hl, h => by
    have hw := Nat.two_pow_pos w
    have hww : 2 ^ (2 * w) = 2 ^ w * 2 ^ w := by rw [Nat.two_mul, Nat.pow_add]
    have hm : 2 ^ w - 1 < 2 ^ (2 * w) := by rw [hww]; have : 2 ^ w ≤ 2 ^ w * 2 ^ w := Nat.le_mul_of_pos_left _ hw; omega
    match L, hl, h with
    | [], _, _ => simp [dg, evens]
    | [a], _, h =>
      have ha := h a (by simp)
      have ha2 : a < 2 ^ (2 * w) := by rw [hww]; have : 2 ^ w ≤ 2 ^ w * 2 ^ w := Nat.le_mul_of_pos_left _ hw; omega
      simp only [dg, evens, List.replicate_succ, Nat.mul_zero]
      rw [show a + 0 = a + 2 ^ (2 * w) * 0 by omega, and_split _ _ _ _ _ ha2 hm, Nat.and_two_pow_sub_one_eq_mod, Nat.mod_eq_of_lt ha, Nat.zero_and]
    | a :: b :: r, hl, h =>
      have ha := h a (by simp)
      have hb := h b (by simp)
      have hab : a + 2 ^ w * b < 2 ^ (2 * w) := by
        rw [hww]
        calc a + 2 ^ w * b < 2 ^ w * (b + 1) := by rw [Nat.mul_succ]; omega
          _ ≤ 2 ^ w * 2 ^ w := Nat.mul_le_mul_left _ hb
      have ih := dg_mask w n r (by simp at hl; omega) (fun d hd => h d (by simp [hd]))
      simp only [dg, evens, List.replicate_succ]
      rw [show a + 2 ^ w * (b + 2 ^ w * dg w r) = (a + 2 ^ w * b) + 2 ^ (2 * w) * dg w r by rw [hww, Nat.mul_add, Nat.mul_assoc, Nat.add_assoc], and_split _ _ _ _ _ hab hm, ih, Nat.and_two_pow_sub_one_eq_mod, Nat.add_mul_mod_self_left, Nat.mod_eq_of_lt ha]
theorem dg_fold2 (W : Nat) : ∀ L : List Nat, dg W (evens L.tail) + dg W (evens L) = dg W (fold2 L)
  | [] => by simp [dg, evens, fold2]
  | [a] => by simp [dg, evens, fold2]
  | a :: b :: r => by
    have ih := dg_fold2 W r
    simp only [List.tail_cons, evens, fold2, dg, evens_cons b r]
    rw [← ih, Nat.mul_add]
    omega
theorem dg_zadd (w : Nat) : ∀ L : List Nat, dg w L.tail + dg w L = dg w (zadd L)
  | [] => by simp [dg, zadd]
  | [a] => by simp [dg, zadd]
  | a :: b :: r => by
    have ih := dg_zadd w (b :: r)
    simp only [List.tail_cons, zadd, dg] at ih ⊢
    rw [← ih]
    simp only [Nat.mul_add]
    omega
theorem evens_zadd : ∀ L : List Nat, evens (zadd L) = fold2 L
  | [] => rfl
  | [a] => rfl
  | [a, b] => rfl
  | a :: b :: c :: r => by
    have ih := evens_zadd (c :: r)
    simp only [zadd, fold2, evens] at ih ⊢
    rw [ih]
theorem zadd_length : ∀ L : List Nat, (zadd L).length = L.length
  | [] => rfl
  | [a] => rfl
  | a :: b :: r => by simp only [zadd, List.length_cons, zadd_length (b :: r)]
theorem zadd_le (c : Nat) : ∀ L : List Nat, (∀ d ∈ L, d ≤ c) → ∀ d ∈ zadd L, d ≤ 2 * c
  | [], _, d, hd => by cases hd
  | [a], h, d, hd => by simp [zadd] at hd; have := h a (by simp); omega
  | a :: b :: r, h, d, hd => by
    simp only [zadd, List.mem_cons] at hd
    rcases hd with rfl | hd
    · have := h a (by simp); have := h b (by simp); omega
    · exact zadd_le c (b :: r) (fun d hd => h d (List.mem_cons_of_mem a hd)) d hd
theorem fold2_le (c : Nat) : ∀ L : List Nat, (∀ d ∈ L, d ≤ c) → ∀ d ∈ fold2 L, d ≤ 2 * c
  | [], _, d, hd => by cases hd
  | [a], h, d, hd => by simp [fold2] at hd; have := h a (by simp); omega
  | a :: b :: r, h, d, hd => by
    simp only [fold2, List.mem_cons] at hd
    rcases hd with rfl | hd
    · have := h a (by simp); have := h b (by simp); omega
    · exact fold2_le c r (fun d hd => h d (by simp [hd])) d hd
theorem fold2_sum : ∀ L : List Nat, (fold2 L).sum = L.sum
  | [] => rfl
  | [a] => rfl
  | a :: b :: r => by simp only [fold2, List.sum_cons, fold2_sum r]; omega
theorem fold2_length : ∀ (n : Nat) (L : List Nat), L.length = 2 * n → (fold2 L).length = n
  | 0, L, h => by obtain rfl : L = [] := List.eq_nil_of_length_eq_zero (by omega); rfl
  | n + 1, a :: b :: r, h => by simp only [fold2, List.length_cons, fold2_length n r (by simp at h; omega)]
  | n + 1, [a], h => by simp at h; omega
  | n + 1, [], h => by simp at h
theorem bitsFrom_length : ∀ n B, (bitsFrom B n).length = n
  | 0, _ => rfl
  | n + 1, B => by simp only [bitsFrom, List.length_cons, bitsFrom_length n]
theorem bitsFrom_le : ∀ n B, ∀ d ∈ bitsFrom B n, d ≤ 1
  | 0, _, d, hd => by cases hd
  | n + 1, B, d, hd => by
    simp only [bitsFrom, List.mem_cons] at hd
    rcases hd with rfl | hd
    · omega
    · exact bitsFrom_le n _ d hd
theorem bitsFrom_dg : ∀ n B, dg 1 (bitsFrom B n) = B % 2 ^ n
  | 0, B => by simp [bitsFrom, dg, Nat.mod_one]
  | n + 1, B => by
    simp only [bitsFrom, dg, bitsFrom_dg n]
    rw [Nat.pow_one, show 2 ^ (n + 1) = 2 * 2 ^ n by rw [Nat.pow_succ, Nat.mul_comm], Nat.mod_mul]

/-- Two fields of w bits into one of 2w. -/
theorem step_fold (w n : Nat) (L : List Nat) (hl : L.length = 2 * n) (h : ∀ d ∈ L, d < 2 ^ w) :
    (dg w L / 2 ^ w &&& dg (2 * w) (List.replicate n (2 ^ w - 1))) + (dg w L &&& dg (2 * w) (List.replicate n (2 ^ w - 1))) = dg (2 * w) (fold2 L) := by
  rw [dg_div w L h, dg_mask w n L (by omega) h, dg_mask w n L.tail (by simp; omega) (fun d hd => h d (List.mem_of_mem_tail hd)), dg_fold2]

def s1 (a : Int) : Int := IntKind.u64.wrap (Go.bits .and .u64 (a / 2) 6148914691236517205 + Go.bits .and .u64 a 6148914691236517205)
def s2 (a : Int) : Int := IntKind.u64.wrap (Go.bits .and .u64 (a / 4) 3689348814741910323 + Go.bits .and .u64 a 3689348814741910323)
def s3 (a : Int) : Int := Go.bits .and .u64 (IntKind.u64.wrap (a / 16 + a)) 1085102592571150095
def s4 (a : Int) : Int := IntKind.u64.wrap (a + a / 256)
def s5 (a : Int) : Int := IntKind.u64.wrap (a + a / 65536)
def s6 (a : Int) : Int := IntKind.u64.wrap (a + a / 4294967296)
theorem ones_eq (a : Int) : bits_OnesCount64.f a = some (Go.bits .and .i64 (wrap64 (s6 (s5 (s4 (s3 (s2 (s1 a))))))) 127) := rfl

theorem s1_nat (L : List Nat) (hl : L.length = 64) (h : ∀ d ∈ L, d ≤ 1) : s1 ((dg 1 L : Nat) : Int) = ((dg 2 (fold2 L) : Nat) : Int) := by
  have hd : ∀ d ∈ L, d < 2 ^ 1 := fun d hd => by have := h d hd; omega
  have hx := dg_lt 1 L hd
  rw [hl] at hx
  have hf := step_fold 1 32 L (by omega) hd
  change _ = dg 2 (fold2 L) at hf
  have hb := dg_lt 2 (fold2 L) (fun d hd => by have := fold2_le 1 L h d hd; omega)
  rw [fold2_length 32 L (by omega)] at hb
  unfold s1
  rw [show ((dg 1 L : Nat) : Int) / 2 = ((dg 1 L / 2 ^ 1 : Nat) : Int) by push_cast; rfl, show (6148914691236517205 : Int) = ((dg (2 * 1) (List.replicate 32 (2 ^ 1 - 1)) : Nat) : Int) by decide +kernel,
    u64_and_nat _ _ (by omega) (by decide +kernel), u64_and_nat _ _ (by omega) (by decide +kernel), ← Int.natCast_add, hf, wrap_u64 _ (by omega) (by omega)]
theorem s2_nat (L : List Nat) (hl : L.length = 32) (h : ∀ d ∈ L, d ≤ 2) : s2 ((dg 2 L : Nat) : Int) = ((dg 4 (fold2 L) : Nat) : Int) := by
  have hd : ∀ d ∈ L, d < 2 ^ 2 := fun d hd => by have := h d hd; omega
  have hx := dg_lt 2 L hd
  rw [hl] at hx
  have hf := step_fold 2 16 L (by omega) hd
  change _ = dg 4 (fold2 L) at hf
  have hb := dg_lt 4 (fold2 L) (fun d hd => by have := fold2_le 2 L h d hd; omega)
  rw [fold2_length 16 L (by omega)] at hb
  unfold s2
  rw [show ((dg 2 L : Nat) : Int) / 4 = ((dg 2 L / 2 ^ 2 : Nat) : Int) by push_cast; rfl, show (3689348814741910323 : Int) = ((dg (2 * 2) (List.replicate 16 (2 ^ 2 - 1)) : Nat) : Int) by decide +kernel,
    u64_and_nat _ _ (by omega) (by decide +kernel), u64_and_nat _ _ (by omega) (by decide +kernel), ← Int.natCast_add, hf, wrap_u64 _ (by omega) (by omega)]
theorem s3_nat (L : List Nat) (hl : L.length = 16) (h : ∀ d ∈ L, d ≤ 4) : s3 ((dg 4 L : Nat) : Int) = ((dg 8 (fold2 L) : Nat) : Int) := by
  have hd : ∀ d ∈ L, d < 2 ^ 4 := fun d hd => by have := h d hd; omega
  have hz : ∀ d ∈ zadd L, d < 2 ^ 4 := fun d hd => by have := zadd_le 4 L h d hd; omega
  have hx := dg_lt 4 (zadd L) hz
  rw [zadd_length, hl] at hx
  have hm := dg_mask 4 8 (zadd L) (by rw [zadd_length]; omega) hz
  rw [evens_zadd] at hm
  unfold s3
  rw [show ((dg 4 L : Nat) : Int) / 16 = ((dg 4 L / 2 ^ 4 : Nat) : Int) by push_cast; rfl, ← Int.natCast_add, dg_div 4 L hd, dg_zadd, wrap_u64 _ (by omega) (by omega), show (1085102592571150095 : Int) = ((dg (2 * 4) (List.replicate 8 (2 ^ 4 - 1)) : Nat) : Int) by decide +kernel,
    u64_and_nat _ _ (by omega) (by decide +kernel), hm]
theorem last_nat (L : List Nat) (hl : L.length = 8) (h : ∀ d ∈ L, d ≤ 8) : Go.bits .and .i64 (wrap64 (s6 (s5 (s4 ((dg 8 L : Nat) : Int))))) 127 = ((L.sum : Nat) : Int) := by
  match L, hl, h with
  | [d0, d1, d2, d3, d4, d5, d6, d7], _, h =>
    have h0 := h d0 (by simp)
    have h1 := h d1 (by simp)
    have h2 := h d2 (by simp)
    have h3 := h d3 (by simp)
    have h4 := h d4 (by simp)
    have h5 := h d5 (by simp)
    have h6 := h d6 (by simp)
    have h7 := h d7 (by simp)
    clear h
    have e4 : s4 ((dg 8 [d0, d1, d2, d3, d4, d5, d6, d7] : Nat) : Int) = (((d0 + d1) + 256 * ((d1 + d2) + 256 * ((d2 + d3) + 256 * ((d3 + d4) + 256 * ((d4 + d5) + 256 * ((d5 + d6) + 256 * ((d6 + d7) + 256 * d7)))))) : Nat) : Int) := by
      unfold s4
      have hq : ((dg 8 [d0, d1, d2, d3, d4, d5, d6, d7] : Nat) : Int) / 256 = ((d1 + 256 * (d2 + 256 * (d3 + 256 * (d4 + 256 * (d5 + 256 * (d6 + 256 * d7))))) : Nat) : Int) := by simp only [dg]; omega
      rw [hq, wrap_u64 _ (by omega) (by simp only [dg]; omega)]
      simp only [dg]
      omega
    have e5 : s5 (((d0 + d1) + 256 * ((d1 + d2) + 256 * ((d2 + d3) + 256 * ((d3 + d4) + 256 * ((d4 + d5) + 256 * ((d5 + d6) + 256 * ((d6 + d7) + 256 * d7)))))) : Nat) : Int)
        = (((d0 + d1 + d2 + d3) + 256 * ((d1 + d2 + d3 + d4) + 256 * ((d2 + d3 + d4 + d5) + 256 * ((d3 + d4 + d5 + d6) + 256 * ((d4 + d5 + d6 + d7) + 256 * ((d5 + d6 + d7) + 256 * ((d6 + d7) + 256 * d7)))))) : Nat) : Int) := by
      unfold s5
      have hq : ((((d0 + d1) + 256 * ((d1 + d2) + 256 * ((d2 + d3) + 256 * ((d3 + d4) + 256 * ((d4 + d5) + 256 * ((d5 + d6) + 256 * ((d6 + d7) + 256 * d7)))))) : Nat) : Int)) / 65536 = (((d2 + d3) + 256 * ((d3 + d4) + 256 * ((d4 + d5) + 256 * ((d5 + d6) + 256 * ((d6 + d7) + 256 * d7)))) : Nat) : Int) := by omega
      rw [hq, wrap_u64 _ (by omega) (by omega)]
      omega
    have e6 : s6 (((d0 + d1 + d2 + d3) + 256 * ((d1 + d2 + d3 + d4) + 256 * ((d2 + d3 + d4 + d5) + 256 * ((d3 + d4 + d5 + d6) + 256 * ((d4 + d5 + d6 + d7) + 256 * ((d5 + d6 + d7) + 256 * ((d6 + d7) + 256 * d7)))))) : Nat) : Int)
        = (((d0 + d1 + d2 + d3 + d4 + d5 + d6 + d7) + 256 * ((d1 + d2 + d3 + d4 + d5 + d6 + d7) + 256 * ((d2 + d3 + d4 + d5 + d6 + d7) + 256 * ((d3 + d4 + d5 + d6 + d7) + 256 * ((d4 + d5 + d6 + d7) + 256 * ((d5 + d6 + d7) + 256 * ((d6 + d7) + 256 * d7)))))) : Nat) : Int) := by
      unfold s6
      have hq : ((((d0 + d1 + d2 + d3) + 256 * ((d1 + d2 + d3 + d4) + 256 * ((d2 + d3 + d4 + d5) + 256 * ((d3 + d4 + d5 + d6) + 256 * ((d4 + d5 + d6 + d7) + 256 * ((d5 + d6 + d7) + 256 * ((d6 + d7) + 256 * d7)))))) : Nat) : Int)) / 4294967296 = (((d4 + d5 + d6 + d7) + 256 * ((d5 + d6 + d7) + 256 * ((d6 + d7) + 256 * d7)) : Nat) : Int) := by omega
      rw [hq, wrap_u64 _ (by omega) (by omega)]
      omega
    rw [e4, e5, e6]
    generalize hK : (d1 + d2 + d3 + d4 + d5 + d6 + d7) + 256 * ((d2 + d3 + d4 + d5 + d6 + d7) + 256 * ((d3 + d4 + d5 + d6 + d7) + 256 * ((d4 + d5 + d6 + d7) + 256 * ((d5 + d6 + d7) + 256 * ((d6 + d7) + 256 * d7))))) = K
    have hKb : K < 36028797018963968 := by omega
    clear hK e4 e5 e6
    rw [show wrap64 ((((d0 + d1 + d2 + d3 + d4 + d5 + d6 + d7) + 256 * K : Nat) : Int)) = (((d0 + d1 + d2 + d3 + d4 + d5 + d6 + d7) + 256 * K : Nat) : Int) by unfold wrap64; omega,
      show (127 : Int) = ((127 : Nat) : Int) from rfl,
      (bits_nat .i64 63 (by decide) (fun n a b => by rw [i64_w]; unfold wrap64; omega) ((d0 + d1 + d2 + d3 + d4 + d5 + d6 + d7) + 256 * K) 127 (by omega) (by decide)).1,
      show (127 : Nat) = 2 ^ 7 - 1 from rfl, Nat.and_two_pow_sub_one_eq_mod]
    simp only [List.sum_cons, List.sum_nil]
    omega

/-- How many of the lowest n bits are set. -/
def popN (B : Nat) : Nat → Nat
  | 0 => 0
  | n + 1 => B % 2 + popN (B / 2) n
theorem bitsFrom_sum : ∀ n B, (bitsFrom B n).sum = popN B n
  | 0, _ => rfl
  | n + 1, B => by simp only [bitsFrom, List.sum_cons, bitsFrom_sum n, popN]
set_option maxRecDepth 100000 in
set_option maxHeartbeats 2000000 in
theorem cntI_pop (B : Nat) (hB : B < 2 ^ 64) : cntI (B : Int) = ((popN B 64 : Nat) : Int) := by
  have l0 := bitsFrom_length 64 B
  have b0 := bitsFrom_le 64 B
  have hd := bitsFrom_dg 64 B
  have hs := bitsFrom_sum 64 B
  rw [Nat.mod_eq_of_lt hB] at hd
  generalize bitsFrom B 64 = L at *
  generalize popN B 64 = p at *
  have l1 := fold2_length 32 L l0
  have b1 := fold2_le 1 L b0
  have l2 := fold2_length 16 _ l1
  have b2 := fold2_le 2 _ b1
  have l3 := fold2_length 8 _ l2
  have b3 := fold2_le 4 _ b2
  have key : Go.bits .and .i64 (wrap64 (s6 (s5 (s4 (s3 (s2 (s1 ((dg 1 L : Nat) : Int)))))))) 127 = ((L.sum : Nat) : Int) := by
    rw [s1_nat L l0 b0, s2_nat (fold2 L) l1 b1, s3_nat (fold2 (fold2 L)) l2 b2, last_nat (fold2 (fold2 (fold2 L))) l3 b3, fold2_sum, fold2_sum, fold2_sum]
  rw [hd, hs] at key
  unfold cntI
  rw [ones_eq, Option.getD_some]
  exact key

end Go.Proofs.YtkdejfedigiohaaGreatDoor

/- The document's answer for days: what its functions, as printed, come to. Plain Lean. -/
namespace Go.Proofs.YtkdejfedigiohaaGreatDoor
open Go.RowKit Go.Proofs.YtkdejfedigiohaaGreatDoorW.PrintWords Go.Proofs.YtkdejfedigiohaaGreatDoorW.PrintLast Go.Proofs.YtkdejfedigiohaaGreatDoorW.PrintMore
set_option linter.unusedVariables false
set_option linter.unusedSimpArgs false

open Go.Proofs.YtkdejfedigiohaaGreatDoor.PR

theorem w64 (x : Int) (h0 : -4611686018427387904 ≤ x) (h1 : x ≤ 4611686018427387904) : wrap64 x = x := by unfold wrap64; omega
theorem tmod_nn (x n : Int) (h : 0 ≤ x) : x.tmod n = x % n := Int.tmod_eq_emod_of_nonneg h

theorem rHas_l0 (v : Int) (hv : v ≤ 63) : ∀ (n k : Nat) (x i : Int), 0 ≤ i → v - i = n → n < k → 0 ≤ x → x < 18446744073709551616 → complineref18_Has.l0 k v x i = some ((x / 2 ^ n) % 2 == 1)
  | 0, k + 1, x, i, h0, h1, _, hx, hx2 => by
    simp only [complineref18_Has.l0]
    rw [if_neg (by omega), tmod_nn x 2 hx]
    simp
  | n + 1, k + 1, x, i, h0, h1, hk, hx, hx2 => by
    simp only [complineref18_Has.l0]
    rw [if_pos (by omega), tq x 2 hx, wrap_u64 _ (by omega) (by omega), w64 (i + 1) (by omega) (by omega), rHas_l0 v hv n k (x / 2) (i + 1) (by omega) (by omega) (by omega) (by omega) (by omega)]
    obtain ⟨X, rfl⟩ := Int.eq_ofNat_of_zero_le hx
    have h2 := congrArg (Nat.cast : Nat → Int) (show X / 2 / 2 ^ n = X / 2 ^ (n + 1) by rw [Nat.div_div_eq_div_mul, Nat.pow_succ, Nat.mul_comm])
    push_cast at h2
    rw [h2]
theorem bit_nat (B n : Nat) : ((((B : Nat) : Int) / 2 ^ n) % 2 == 1) = B.testBit n := by
  rw [show ((B : Nat) : Int) / 2 ^ n = ((B / 2 ^ n : Nat) : Int) by push_cast; rfl, Nat.testBit_eq_decide_div_mod_eq]
  generalize B / 2 ^ n = x
  rw [Bool.eq_iff_iff]
  simp
  omega
theorem rHas (b v : Int) (s : Bool) (hb : U64 b) (k : Nat) (hk : 70 ≤ k) : complineref18_Has.f k b s v = some (hasB b v) := by
  obtain ⟨k, rfl⟩ : ∃ j, k = j + 1 := ⟨k - 1, by omega⟩
  obtain ⟨B, rfl⟩ := Int.eq_ofNat_of_zero_le hb.1
  unfold complineref18_Has.f hasB
  by_cases h0 : v < 0
  · rw [if_pos h0]; simp only [complineref18_Has.j0]; rw [if_pos trivial, show decide (0 ≤ v) = false by simp; omega]; rfl
  · rw [if_neg h0]
    simp only [complineref18_Has.j0]
    by_cases h1 : v > 63
    · rw [if_pos (by simpa using h1)]; simp; omega
    · rw [if_neg (by simpa using h1), rHas_l0 v (by omega) v.toNat k _ 0 (by omega) (by omega) (by omega) hb.1 hb.2, bit_nat]
      rw [show decide (0 ≤ v) = true by simp; omega, show decide (v < 64) = true by simp; omega]
      simp

theorem has_nat (B i : Nat) (hi : i < 64) : hasB (B : Int) (i : Int) = B.testBit i := by
  unfold hasB
  rw [show decide ((0 : Int) ≤ (i : Int)) = true by simp, show decide ((i : Int) < 64) = true by simp; omega]
  simp
theorem pop_step (B i : Nat) (hi : i < 64) : popN (B / 2 ^ i) (64 - i) = (if B.testBit i = true then 1 else 0) + popN (B / 2 ^ (i + 1)) (64 - (i + 1)) := by
  obtain ⟨n, hn⟩ : ∃ n, 64 - i = n + 1 := ⟨63 - i, by omega⟩
  rw [hn, show 64 - (i + 1) = n by omega]
  simp only [popN]
  rw [Nat.div_div_eq_div_mul, ← Nat.pow_succ, Nat.testBit_eq_decide_div_mod_eq]
  congr 1
  rcases Nat.mod_two_eq_zero_or_one (B / 2 ^ i) with e | e <;> simp [e]
theorem rCount_l0 (B : Nat) (s : Bool) (hB : B < 2 ^ 64) : ∀ (n k : Nat) (c : Int) (i : Nat), i + n = 64 → 0 ≤ c → c ≤ i → n + 71 ≤ k → complineref18_Count.l0 k c i (B : Int) s = some (c + (popN (B / 2 ^ i) (64 - i) : Nat))
  | 0, k + 1, c, i, hi, _, _, _ => by
    simp only [complineref18_Count.l0]
    rw [if_neg (by omega), show 64 - i = 0 by omega]
    simp [popN]
  | n + 1, k + 1, c, i, hi, hc, hc2, hk => by
    have hb : U64 (B : Int) := ⟨by omega, by omega⟩
    simp only [complineref18_Count.l0]
    rw [if_pos (by omega), rHas _ _ _ hb k (by omega), has_nat B i (by omega), Option.bind_some, pop_step B i (by omega), w64 ((i : Int) + 1) (by omega) (by omega), w64 (c + 1) (by omega) (by omega)]
    cases B.testBit i
    · rw [if_neg (by decide)]
      have := rCount_l0 B s hB n k c (i + 1) (by omega) hc (by omega) (by omega)
      simpa using this
    · rw [if_pos rfl]
      have := rCount_l0 B s hB n k (c + 1) (i + 1) (by omega) (by omega) (by omega) (by omega)
      rw [show ((i + 1 : Nat) : Int) = (i : Int) + 1 by omega] at this
      rw [this]
      simp
      omega
theorem rCount (b : Int) (s : Bool) (hb : U64 b) : complineref18_Count.f 200 b s = some (cntI b) := by
  obtain ⟨B, rfl⟩ := Int.eq_ofNat_of_zero_le hb.1
  have hB : B < 2 ^ 64 := by have := hb.2; omega
  unfold complineref18_Count.f
  have := rCount_l0 B s hB 64 200 0 0 (by omega) (by omega) (by omega) (by omega)
  rw [show ((0 : Nat) : Int) = 0 from rfl] at this
  rw [this, cntI_pop B hB]
  simp

end Go.Proofs.YtkdejfedigiohaaGreatDoor

/- The document's answer: which field is wrong; as printed, and as ours. Plain Lean. -/
namespace Go.Proofs.YtkdejfedigiohaaGreatDoor
open Go.RowKit Go.Proofs.YtkdejfedigiohaaGreatDoorW.PrintWords Go.Proofs.YtkdejfedigiohaaGreatDoorW.PrintLast Go.Proofs.YtkdejfedigiohaaGreatDoorW.PrintMore
set_option linter.unusedVariables false
set_option linter.unusedSimpArgs false

open Go.Proofs.YtkdejfedigiohaaGreatDoor.PR

def finC (c : Int) (s : Bool) (lo hi : Int) : Int := if c = 0 then 2 else if s = true then if c = hi - lo + 1 then 0 else 2 else 0
theorem rChk_end (k : Nat) (lo hi c i : Int) (b : Int) (s : Bool) (hl : 0 ≤ lo ∧ lo ≤ hi ∧ hi ≤ 59) (hi' : ¬ i < 64) : complineref18_Check.l0 (k + 1) lo hi c i b s = some (finC c s lo hi) := by
  simp only [complineref18_Check.l0]
  rw [if_neg hi', w64 (hi - lo) (by omega) (by omega), w64 (hi - lo + 1) (by omega) (by omega)]
  unfold finC
  repeat' split <;> first | rfl | skip
theorem rChk_good (B : Nat) (s : Bool) (lo hi : Int) (hB : B < 2 ^ 64) (hl : 0 ≤ lo ∧ lo ≤ hi ∧ hi ≤ 59) : ∀ (n k : Nat) (c : Int) (i : Nat), i + n = 64 → 0 ≤ c → c ≤ i → 2 * n + 75 ≤ k →
    (∀ j, i ≤ j → j < 64 → B.testBit j = true → lo ≤ j ∧ (j : Int) ≤ hi) → complineref18_Check.l0 k lo hi c i (B : Int) s = some (finC (c + (popN (B / 2 ^ i) (64 - i) : Nat)) s lo hi)
  | 0, k + 1, c, i, hi', _, _, _, _ => by
    rw [rChk_end k lo hi c i _ s hl (by omega), show 64 - i = 0 by omega]
    simp [popN]
  | n + 1, k + 2, c, i, hi', hc, hc2, hk, hj => by
    have hb : U64 (B : Int) := ⟨by omega, by omega⟩
    have ih0 := rChk_good B s lo hi hB hl n k c (i + 1) (by omega) hc (by omega) (by omega) (fun j h1 h2 h3 => hj j (by omega) h2 h3)
    have ih1 := rChk_good B s lo hi hB hl n k (c + 1) (i + 1) (by omega) (by omega) (by omega) (by omega) (fun j h1 h2 h3 => hj j (by omega) h2 h3)
    rw [show ((i + 1 : Nat) : Int) = (i : Int) + 1 by omega] at ih0 ih1
    rw [pop_step B i (by omega)]
    simp only [complineref18_Check.l0]
    rw [if_pos (by omega), rHas _ _ _ hb (k + 1) (by omega), has_nat B i (by omega), Option.bind_some]
    cases hbit : B.testBit i
    · simp only [complineref18_Check.j1]
      simp only [Bool.false_eq_true, if_false]
      rw [w64 ((i : Int) + 1) (by omega) (by omega), ih0]
      simp
    · obtain ⟨h1, h2⟩ := hj i (by omega) (by omega) hbit
      simp only [complineref18_Check.j1]
      rw [if_pos trivial, if_neg (show ¬ (i : Int) < lo by omega), if_neg (by simp; omega), if_pos trivial, w64 ((i : Int) + 1) (by omega) (by omega), w64 (c + 1) (by omega) (by omega), ih1]
      congr 2
      simp
      omega
theorem rChk_bad (B : Nat) (s : Bool) (lo hi : Int) (hB : B < 2 ^ 64) (hl : 0 ≤ lo ∧ lo ≤ hi ∧ hi ≤ 59) : ∀ (n k : Nat) (c : Int) (i : Nat), i + n = 64 → 0 ≤ c → c ≤ i → 2 * n + 75 ≤ k →
    (∃ j, i ≤ j ∧ j < 64 ∧ B.testBit j = true ∧ ¬ (lo ≤ j ∧ (j : Int) ≤ hi)) → complineref18_Check.l0 k lo hi c i (B : Int) s = some 2
  | 0, k + 1, c, i, hi', _, _, _, ⟨j, h1, h2, _⟩ => by omega
  | n + 1, k + 2, c, i, hi', hc, hc2, hk, ⟨j, j1, j2, j3, j4⟩ => by
    have hb : U64 (B : Int) := ⟨by omega, by omega⟩
    simp only [complineref18_Check.l0]
    rw [if_pos (by omega), rHas _ _ _ hb (k + 1) (by omega), has_nat B i (by omega), Option.bind_some]
    by_cases hij : j = i
    · subst hij
      rw [j3, if_pos rfl]
      by_cases h1 : (j : Int) < lo
      · rw [if_pos h1]; simp only [complineref18_Check.j1]; rw [if_pos trivial]
      · rw [if_neg h1]; simp only [complineref18_Check.j1]; rw [if_pos (by simp; omega)]
    · have hx : ∃ j, i + 1 ≤ j ∧ j < 64 ∧ B.testBit j = true ∧ ¬ (lo ≤ j ∧ (j : Int) ≤ hi) := ⟨j, by omega, j2, j3, j4⟩
      have ih0 := rChk_bad B s lo hi hB hl n k c (i + 1) (by omega) hc (by omega) (by omega) hx
      have ih1 := rChk_bad B s lo hi hB hl n k (c + 1) (i + 1) (by omega) (by omega) (by omega) (by omega) hx
      rw [show ((i + 1 : Nat) : Int) = (i : Int) + 1 by omega] at ih0 ih1
      have hw := w64 ((i : Int) + 1) (by omega) (by omega)
      have hw2 := w64 (c + 1) (by omega) (by omega)
      cases hbit : B.testBit i
      · simp only [complineref18_Check.j1, Bool.false_eq_true, if_false]
        rw [hw, ih0]
      · rw [if_pos rfl]
        simp only [complineref18_Check.j1]
        by_cases h1 : (i : Int) < lo
        · rw [if_pos h1, if_pos trivial]
        · rw [if_neg h1]
          by_cases h2 : (i : Int) > hi
          · rw [if_pos (by simpa using h2)]
          · rw [if_neg (by simpa using h2), if_pos trivial, hw, hw2, ih1]

theorem pop_sub : ∀ (n B A : Nat), (∀ j, j < n → B.testBit j = true → A.testBit j = true) → popN B n ≤ popN A n ∧ (popN B n = popN A n → B % 2 ^ n = A % 2 ^ n)
  | 0, B, A, _ => by simp [popN, Nat.mod_one]
  | n + 1, B, A, h => by
    have h0 := h 0 (by omega)
    rw [Nat.testBit_zero, Nat.testBit_zero] at h0
    simp only [decide_eq_true_eq] at h0
    obtain ⟨i1, i2⟩ := pop_sub n (B / 2) (A / 2) (fun j hj hb => by
      have := h (j + 1) (by omega)
      rw [Nat.testBit_add_one, Nat.testBit_add_one] at this
      exact this hb)
    simp only [popN]
    refine ⟨by omega, fun he => ?_⟩
    have i3 := i2 (by omega)
    rw [show 2 ^ (n + 1) = 2 * 2 ^ n by rw [Nat.pow_succ, Nat.mul_comm], Nat.mod_mul, Nat.mod_mul, i3]
    omega
theorem pop_zero : ∀ n, popN 0 n = 0
  | 0 => rfl
  | n + 1 => by simp only [popN]; rw [show 0 / 2 = 0 from rfl, pop_zero n]
theorem and_out (B A : Nat) (hA : A < 2 ^ 64) (hB : B < 2 ^ 64) : B &&& (18446744073709551615 - A) = 0 ↔ ∀ j, j < 64 → B.testBit j = true → A.testBit j = true := by
  rw [show 18446744073709551615 - A = 2 ^ 64 - (A + 1) by omega]
  constructor
  · intro h j hj hb
    have := congrArg (fun x => x.testBit j) h
    simp only [Nat.testBit_and, Nat.zero_testBit] at this
    rw [Nat.testBit_two_pow_sub_succ hA, hb, show decide (j < 64) = true by simpa using hj] at this
    simpa using this
  · intro h
    apply Nat.eq_of_testBit_eq
    intro j
    rw [Nat.testBit_and, Nat.zero_testBit, Nat.testBit_two_pow_sub_succ hA]
    by_cases hj : j < 64
    · cases hb : B.testBit j
      · rfl
      · rw [h j hj hb]; simp
    · simp [hj]

theorem rLimits (kind : Int) (h0 : 0 ≤ kind) (h1 : kind ≤ 4) : complineref18_limits.f kind = some (loI kind, hiI kind, 0) := by
  obtain rfl | rfl | rfl | rfl | rfl : kind = 0 ∨ kind = 1 ∨ kind = 2 ∨ kind = 3 ∨ kind = 4 := by omega
  all_goals decide +kernel
theorem kind_facts (kind : Int) (h0 : 0 ≤ kind) (h1 : kind ≤ 4) : (0 ≤ loI kind ∧ loI kind ≤ hiI kind ∧ hiI kind ≤ 59) ∧ (allB kind).toNat < 2 ^ 64 ∧ 0 ≤ allB kind ∧ (popN (allB kind).toNat 64 : Int) = hiI kind - loI kind + 1
    ∧ ∀ j, j < 64 → ((allB kind).toNat.testBit j = true ↔ (loI kind ≤ j ∧ (j : Int) ≤ hiI kind)) := by
  obtain rfl | rfl | rfl | rfl | rfl : kind = 0 ∨ kind = 1 ∨ kind = 2 ∨ kind = 3 ∨ kind = 4 := by omega
  all_goals decide +kernel
theorem rCheck (b kind : Int) (s : Bool) (hb : U64 b) (h0 : 0 ≤ kind) (h1 : kind ≤ 4) (k : Nat) (hk : 210 ≤ k) : complineref18_Check.f k b s kind = some (chkI b s kind) := by
  obtain ⟨B, rfl⟩ := Int.eq_ofNat_of_zero_le hb.1
  have hB : B < 2 ^ 64 := by have := hb.2; omega
  obtain ⟨hl, hA, hA0, hp, hbits⟩ := kind_facts kind h0 h1
  unfold complineref18_Check.f
  rw [rLimits kind h0 h1, Option.bind_some, if_pos rfl]
  unfold chkI
  rw [if_neg (by omega)]
  rw [show ((B : Nat) : Int).toNat = B from rfl]
  generalize hAA : (allB kind).toNat = A at *
  have hAe : allB kind = (A : Int) := by omega
  rw [hAe]
  by_cases hg : ∀ j, 0 ≤ j → j < 64 → B.testBit j = true → loI kind ≤ j ∧ (j : Int) ≤ hiI kind
  · have e := rChk_good B s (loI kind) (hiI kind) hB hl 64 k 0 0 (by omega) (by omega) (by omega) (by omega) hg
    have hsub : ∀ j, j < 64 → B.testBit j = true → A.testBit j = true := fun j hj hb => (hbits j hj).2 (hg j (by omega) hj hb)
    have hout := (and_out B A hA hB).2 hsub
    rw [show ((0 : Nat) : Int) = 0 from rfl] at e
    simp only [Nat.pow_zero, Nat.div_one, Int.zero_add, Nat.sub_zero] at e
    rw [e]
    obtain ⟨p1, p2⟩ := pop_sub 64 B A hsub
    obtain ⟨z1, z2⟩ := pop_sub 64 0 B (fun j _ h => by rw [Nat.zero_testBit] at h; cases h)
    rw [pop_zero, Nat.zero_mod, Nat.mod_eq_of_lt hB] at z2
    rw [Nat.mod_eq_of_lt hB, Nat.mod_eq_of_lt hA] at p2
    unfold finC
    by_cases hB0 : B = 0
    · subst hB0
      rw [pop_zero]
      simp
    · have hne : popN B 64 ≠ 0 := fun h => hB0 (z2 h.symm).symm
      rw [if_neg (show ¬ ((popN B 64 : Nat) : Int) = 0 by omega), if_neg (show ¬ ((B : Nat) : Int) = 0 by omega), if_neg (show ¬ (B &&& (18446744073709551615 - A) ≠ 0) by rw [hout]; simp), ← hp]
      cases s
      · rw [if_neg (by decide), if_neg (by simp)]
      · rw [if_pos rfl]
        by_cases hq : B = A
        · subst hq
          rw [if_pos rfl, if_neg (by simp)]
        · have : popN B 64 ≠ popN A 64 := fun h => hq (p2 h)
          rw [if_neg (by omega), if_pos ⟨rfl, by omega⟩]
  · have hx : ∃ j, 0 ≤ j ∧ j < 64 ∧ B.testBit j = true ∧ ¬ (loI kind ≤ j ∧ (j : Int) ≤ hiI kind) := by
      refine Classical.byContradiction fun hn => hg fun j a b c => Classical.byContradiction fun d => hn ⟨j, a, b, c, d⟩
    have e := rChk_bad B s (loI kind) (hiI kind) hB hl 64 k 0 0 (by omega) (by omega) (by omega) (by omega) hx
    rw [show ((0 : Nat) : Int) = 0 from rfl] at e
    rw [e]
    obtain ⟨j, _, j2, j3, j4⟩ := hx
    by_cases hB0 : B = 0
    · subst hB0; rw [Nat.zero_testBit] at j3; cases j3
    · rw [if_neg (by omega : ¬ ((B : Int) = 0)), if_pos]
      intro h
      exact j4 ((hbits j j2).1 ((and_out B A hA hB).1 h j j2 j3))

end Go.Proofs.YtkdejfedigiohaaGreatDoor

/- The document's answer: dates, and whether a minute matches; as printed, and as ours. Plain Lean. -/
namespace Go.Proofs.YtkdejfedigiohaaGreatDoor
open Go.RowKit Go.Proofs.YtkdejfedigiohaaGreatDoorW.PrintWords Go.Proofs.YtkdejfedigiohaaGreatDoorW.PrintLast Go.Proofs.YtkdejfedigiohaaGreatDoorW.PrintMore
set_option linter.unusedVariables false
set_option linter.unusedSimpArgs false

open Go.Proofs.YtkdejfedigiohaaGreatDoor.PR

def flds (x : Sp) : List S24 := [⟨x.m.b, x.m.s⟩, ⟨x.h.b, x.h.s⟩, ⟨x.d.b, x.d.s⟩, ⟨x.n.b, x.n.s⟩, ⟨x.w.b, x.w.s⟩]
theorem chk_step (x : Sp) (k : Nat) (i j : Int) (b : Int) (s : Bool) (hj : i + 1 = j) (h0 : 0 ≤ i) (h1 : i ≤ 4) (hk : 210 ≤ k) (hb : U64 b) (hr : rd_T24 (flds x) i = ⟨b, s⟩) :
    complineref19_Check.l0 (k + 1) (flds x) i = if chkI b s i = 0 then complineref19_Check.l0 k (flds x) j else some (j, chkI b s i) := by
  subst hj
  simp only [complineref19_Check.l0]
  rw [if_pos (by omega), if_pos h0, if_pos (by show i < ((flds x).length : Int); simp [flds]; omega), hr, rCheck b i s hb h0 h1 k hk, Option.bind_some, w64 (i + 1) (by omega) (by omega)]
theorem rChk19 (x : Sp) (hx : x.Ok) (k : Nat) (hk : 220 ≤ k) : complineref19_Check.f k x.m.b x.m.s x.h.b x.h.s x.d.b x.d.s x.n.b x.n.s x.w.b x.w.s = some (spChk x) := by
  obtain ⟨k, rfl⟩ : ∃ j, k = j + 6 := ⟨k - 6, by omega⟩
  show complineref19_Check.l0 (k + 6) (flds x) 0 = _
  unfold spChk
  rw [chk_step x (k + 5) 0 1 x.m.b x.m.s (by omega) (by omega) (by omega) (by omega) hx.m rfl]
  by_cases h1 : chkI x.m.b x.m.s 0 = 0
  · rw [if_pos h1, if_neg (by simpa using h1), chk_step x (k + 4) 1 2 x.h.b x.h.s (by omega) (by omega) (by omega) (by omega) hx.h rfl]
    by_cases h2 : chkI x.h.b x.h.s 1 = 0
    · rw [if_pos h2, if_neg (by simpa using h2), chk_step x (k + 3) 2 3 x.d.b x.d.s (by omega) (by omega) (by omega) (by omega) hx.d rfl]
      by_cases h3 : chkI x.d.b x.d.s 2 = 0
      · rw [if_pos h3, if_neg (by simpa using h3), chk_step x (k + 2) 3 4 x.n.b x.n.s (by omega) (by omega) (by omega) (by omega) hx.n rfl]
        by_cases h4 : chkI x.n.b x.n.s 3 = 0
        · rw [if_pos h4, if_neg (by simpa using h4), chk_step x (k + 1) 4 5 x.w.b x.w.s (by omega) (by omega) (by omega) (by omega) hx.w rfl]
          by_cases h5 : chkI x.w.b x.w.s 4 = 0
          · rw [if_pos h5, if_neg (by simpa using h5)]
            simp only [complineref19_Check.l0]
            rw [if_neg (by omega)]
          · rw [if_neg h5, if_pos h5]
        · rw [if_neg h4, if_pos h4]
      · rw [if_neg h3, if_pos h3]
    · rw [if_neg h2, if_pos h2]
  · rw [if_neg h1, if_pos h1]

theorem rLeap (y : Int) (h : 0 ≤ y) : complineref16_Leap.f y = some (leapB y) := by
  unfold complineref16_Leap.f leapB
  rw [tmod_nn y 400 h, tmod_nn y 4 h, tmod_nn y 100 h]
  by_cases h4 : y % 400 = 0
  · rw [if_pos h4, show decide (y % 4 = 0) = true by simp; omega, show decide (y % 400 = 0) = true by simpa using h4]; simp
  · rw [if_neg h4, show decide (y % 400 = 0) = false by simpa using h4]
    by_cases h2 : y % 4 = 0
    · rw [if_pos h2, show decide (y % 4 = 0) = true by simpa using h2]
      by_cases h3 : y % 100 = 0 <;> simp [h3]
    · rw [if_neg h2, show decide (y % 4 = 0) = false by simpa using h2]; simp
theorem rDays (y : Int) (h : 0 ≤ y) : complineref16_days.f y = some (365 + if leapB y = true then 1 else 0) := by
  unfold complineref16_days.f
  rw [rLeap y h, Option.bind_some]
  split <;> rfl
theorem rLength (y m : Int) (h : 0 ≤ y) (k : Nat) (hk : 5 ≤ k) : complineref16_Length.f k y m = some (lenI y m) := by
  obtain ⟨k, rfl⟩ : ∃ j, k = j + 1 := ⟨k - 1, by omega⟩
  unfold complineref16_Length.f lenI
  by_cases h1 : m < 1
  · rw [if_pos h1, if_pos (.inl h1)]; simp only [complineref16_Length.j0]; rw [if_pos trivial]
  · rw [if_neg h1]
    simp only [complineref16_Length.j0]
    by_cases h2 : 12 < m
    · rw [if_pos (by simpa using h2), if_pos (.inr h2)]
    · rw [if_neg (by simpa using h2), if_neg (show ¬ (m < 1 ∨ 12 < m) by omega), rLeap y h, Option.bind_some]
      unfold len12
      by_cases e2 : m = 2
      · subst e2
        cases leapB y <;> simp
      · rw [if_neg e2, if_neg (show ¬ (m = 2 ∧ leapB y = true) by omega), if_neg e2]
        by_cases e4 : m = 4 ∨ m = 6 ∨ m = 9 ∨ m = 11
        · rw [if_pos e4]
          rcases e4 with rfl | rfl | rfl | rfl <;> rfl
        · rw [if_neg e4, if_neg (by omega), if_neg (by omega), if_neg (by omega), if_neg (by omega)]

theorem rDate_l1 (n y : Int) (hy0 : 1970 ≤ y) (hy1 : y ≤ 2999) : ∀ (c k : Nat) (x m : Int), (13 - m).toNat = c → c + 10 ≤ k → 0 ≤ x → 1 ≤ m → m ≤ 12 → aheadI y + goneI y m + x = n → x < goneI y 13 - goneI y m →
    ∃ m' d, IsDate n y m' d ∧ complineref16_Date.l1 k x y m = some (y, m', d, 0)
  | 0, _, x, m, hc, _, _, _, _, _, _ => by omega
  | c + 1, k + 1, x, m, hc, hk, hx, h1, h2, hs, hlt => by
    have hlen := lenI_bd y m
    have hnx := goneI_next y m h1
    simp only [complineref16_Date.l1]
    rw [rLength y m (by omega) k (by omega), Option.bind_some]
    by_cases hge : x ≥ lenI y m
    · rw [if_pos hge, Option.bind_some]
      have hm : m < 12 := by
        refine Classical.byContradiction fun hn => ?_
        obtain rfl : m = 12 := by omega
        rw [show (12 : Int) + 1 = 13 from rfl] at hnx
        omega
      have hg := goneI_bd y (m + 1) (by omega) (by omega)
      have hg13 := goneI_bd y 13 (by omega) (by omega)
      have hg0 := goneI_bd y m h1 (by omega)
      rw [w64 (x - lenI y m) (by omega) (by omega), w64 (m + 1) (by omega) (by omega)]
      exact rDate_l1 n y hy0 hy1 c k (x - lenI y m) (m + 1) (by omega) (by omega) (by omega) (by omega) (by omega) (by omega) (by omega)
    · rw [if_neg hge, w64 (x + 1) (by omega) (by omega)]
      exact ⟨m, x + 1, ⟨hy0, hy1, h1, h2, by omega, by omega, by omega⟩, rfl⟩
theorem ahead_lo : aheadI 1970 = 0 := by decide +kernel
theorem ahead_hi : aheadI 3000 = 376200 := by decide +kernel
theorem rDate_l0 (n : Int) (hn : n ≤ 376199) : ∀ (c k : Nat) (x y : Int), (3000 - y).toNat = c → c + 40 ≤ k → 0 ≤ x → 1970 ≤ y → y ≤ 2999 → aheadI y + x = n →
    ∃ y' m' d, IsDate n y' m' d ∧ complineref16_Date.l0 k x y 1 = some (y', m', d, 0)
  | 0, _, x, y, hc, _, _, _, _, _ => by omega
  | c + 1, k + 1, x, y, hc, hk, hx, h1, h2, hs => by
    have hst := ahead_step y
    have hm := ahead_mono 1970 y h1
    rw [ahead_lo] at hm
    simp only [complineref16_Date.l0]
    rw [rDays y (by omega), Option.bind_some]
    by_cases hge : x ≥ 365 + if leapB y = true then 1 else 0
    · rw [if_pos hge, Option.bind_some]
      have hy : y < 2999 := by
        refine Classical.byContradiction fun hn2 => ?_
        obtain rfl : y = 2999 := by omega
        rw [show (2999 : Int) + 1 = 3000 from rfl, ahead_hi] at hst
        omega
      rw [w64 (y + 1) (by omega) (by omega), w64 _ (by split at hge <;> omega) (by split at hge <;> omega)]
      exact rDate_l0 n hn c k _ (y + 1) (by omega) (by omega) (by omega) (by omega) (by omega) (by omega)
    · rw [if_neg hge]
      have h13 := goneI_13 y
      have hg1 : goneI y 1 = 0 := rfl
      obtain ⟨m', d, hd, he⟩ := rDate_l1 n y h1 h2 12 k x 1 (by decide) (by omega) hx (by omega) (by omega) (by omega) (by omega)
      exact ⟨y, m', d, hd, he⟩
theorem rDate (n : Int) (h0 : 0 ≤ n) (h1 : n ≤ 376199) (k : Nat) (hk : 1100 ≤ k) : ∃ y m d, IsDate n y m d ∧ complineref16_Date.f k n = some (y, m, d, 0) := by
  obtain ⟨k, rfl⟩ : ∃ j, k = j + 1 := ⟨k - 1, by omega⟩
  unfold complineref16_Date.f
  rw [if_neg (by omega)]
  simp only [complineref16_Date.j0]
  rw [if_neg (by simp; omega)]
  exact rDate_l0 n h1 1030 k n 1970 (by decide) (by omega) h0 (by omega) (by omega) (by rw [ahead_lo]; omega)
theorem rWeek (n : Int) (h0 : 0 ≤ n) (h1 : n ≤ 376199) : complineref16_Week.f n = some (weekI n, 0) := by
  unfold complineref16_Week.f weekI
  rw [if_neg (by omega), if_neg (by omega), tmod_nn n 7 h0, w64 (n % 7 + 4) (by omega) (by omega), tmod_nn _ 7 (by omega), show (n % 7 + 4) % 7 = (n + 4) % 7 by omega]
theorem rOf (t : Int) (h0 : 0 ≤ t) (h1 : t ≤ 541727999) (k : Nat) (hk : 1110 ≤ k) : ∃ y m d, IsDate (t / 1440) y m d ∧ complineref16_Of.f k t = some (y, m, d, t / 60 % 24, t % 60, weekI (t / 1440), 0) := by
  obtain ⟨k, rfl⟩ : ∃ j, k = j + 1 := ⟨k - 1, by omega⟩
  obtain ⟨y, m, d, hD, he⟩ := rDate (t / 1440) (by omega) (by omega) k (by omega)
  refine ⟨y, m, d, hD, ?_⟩
  unfold complineref16_Of.f
  rw [if_neg (by omega)]
  simp only [complineref16_Of.j0]
  rw [if_neg (by simp; omega), tq t 1440 h0, w64 (t / 1440) (by omega) (by omega), he, Option.bind_some, rWeek _ (by omega) (by omega), Option.bind_some, tmod_nn t 1440 h0, tmod_nn t 60 h0, tq _ 60 (by omega), w64 _ (by omega) (by omega), show t % 1440 / 60 = t / 60 % 24 by omega]
theorem rOf_no (t : Int) (h : t < 0 ∨ 541727999 < t) (k : Nat) (hk : 1110 ≤ k) : complineref16_Of.f k t = some (0, 0, 0, 0, 0, 0, 1) := by
  obtain ⟨k, rfl⟩ : ∃ j, k = j + 1 := ⟨k - 1, by omega⟩
  unfold complineref16_Of.f
  rcases h with h | h
  · rw [if_pos h]; simp only [complineref16_Of.j0]; rw [if_pos trivial]
  · rw [if_neg (by omega)]; simp only [complineref16_Of.j0]; rw [if_pos (by simpa using h)]
theorem rOn (x : Sp) (hx : x.Ok) (m d wk : Int) (k : Nat) (hk : 70 ≤ k) : complineref21_On.f k x.m.b x.m.s x.h.b x.h.s x.d.b x.d.s x.n.b x.n.s x.w.b x.w.s m d wk = some (hasB x.n.b m && dayOn x d wk) := by
  unfold complineref21_On.f
  rw [rHas _ _ _ hx.n k hk, rHas _ _ _ hx.d k hk, rHas _ _ _ hx.w k hk]
  simp only [Option.bind_some]
  unfold dayOn starless dayOr dayAnd
  cases x.d.s <;> cases x.w.s <;> cases hasB x.n.b m <;> cases hasB x.d.b d <;> cases hasB x.w.b wk <;> rfl
abbrev rM (x : Sp) (t : Int) : Option (Bool × Int) := complineref21_Match.f 3000 x.m.b x.m.s x.h.b x.h.s x.d.b x.d.s x.n.b x.n.s x.w.b x.w.s t
theorem rMatch_bad (x : Sp) (hx : x.Ok) (t : Int) (h : (spChk x).2 ≠ 0) : rM x t = some (false, 2) := by
  unfold rM complineref21_Match.f
  rw [rChk19 x hx 3000 (by omega), Option.bind_some, if_neg h]
theorem rMatch_no (x : Sp) (hx : x.Ok) (t : Int) (h : (spChk x).2 = 0) (ht : t < 0 ∨ 541727999 < t) : rM x t = some (false, 1) := by
  unfold rM complineref21_Match.f
  rw [rChk19 x hx 3000 (by omega), Option.bind_some, if_pos h, rOf_no t ht 3000 (by omega), Option.bind_some, if_neg (by decide)]
theorem rMatch_ok (x : Sp) (hx : x.Ok) (t : Int) (h : (spChk x).2 = 0) (h0 : 0 ≤ t) (h1 : t ≤ 541727999) (y m d : Int) (hD : IsDate (t / 1440) y m d) : rM x t = some (matchI x m d (t / 60 % 24) (t % 60) (weekI (t / 1440)), 0) := by
  unfold rM complineref21_Match.f
  obtain ⟨y', m', d', hD', he⟩ := rOf t h0 h1 3000 (by omega)
  obtain ⟨rfl, rfl, rfl⟩ := IsDate.inj hD' hD
  rw [rChk19 x hx 3000 (by omega), Option.bind_some, if_pos h, he, Option.bind_some, if_pos rfl, rOn x hx _ _ _ 3000 (by omega), Option.bind_some, rHas _ _ _ hx.h 3000 (by omega), Option.bind_some, rHas _ _ _ hx.m 3000 (by omega), Option.bind_some]
  unfold matchI
  cases hasB x.n.b m' <;> cases dayOn x d' (weekI (t / 1440)) <;> cases hasB x.h.b (t / 60 % 24) <;> cases hasB x.m.b (t % 60) <;> rfl

end Go.Proofs.YtkdejfedigiohaaGreatDoor
