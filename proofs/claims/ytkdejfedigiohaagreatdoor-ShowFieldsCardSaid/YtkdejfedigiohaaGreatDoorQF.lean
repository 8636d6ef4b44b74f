/- The document's answer for fields, as printed: which is wrong, and what it has. Plain Lean. The document's answer for a field's text: its walk. -/
import Derived.Test.YtkdejfedigiohaaGreatDoorPRs2
import Derived.Test.YtkdejfedigiohaaGreatDoorQA
import Derived.Test.YtkdejfedigiohaaGreatDoorPRd1
import Derived.Test.YtkdejfedigiohaaGreatDoorQD
/- The document's answer for fields, as printed: which is wrong, and what it has. Plain Lean. -/
namespace Go.Proofs.YtkdejfedigiohaaGreatDoor
open Go.RowKit Go.Proofs.YtkdejfedigiohaaGreatDoorW.PrintWords Go.Proofs.YtkdejfedigiohaaGreatDoorW.PrintLast Go.Proofs.YtkdejfedigiohaaGreatDoorW.PrintMore
set_option linter.unusedVariables false
set_option linter.unusedSimpArgs false

open Go.Proofs.YtkdejfedigiohaaGreatDoor.PS

/-- How many of the lowest n bits are set. -/
def popN (B : Nat) : Nat → Nat
  | 0 => 0
  | n + 1 => B % 2 + popN (B / 2) n
theorem w64 (x : Int) (h0 : -4611686018427387904 ≤ x) (h1 : x ≤ 4611686018427387904) : wrap64 x = x := by unfold wrap64; omega
theorem tmod_nn (x n : Int) (h : 0 ≤ x) : x.tmod n = x % n := Int.tmod_eq_emod_of_nonneg h
theorem rHas_l0 (v : Int) (hv : v ≤ 63) : ∀ (n k : Nat) (x i : Int), 0 ≤ i → v - i = n → n < k → 0 ≤ x → x < 18446744073709551616 → complineref18_Has.l0 k v x i = some ((x / 2 ^ n) % 2 == 1)
  | 0, k + 1, x, i, h0, h1, _, hx, hx2 => by
    simp only [complineref18_Has.l0]
    rw [if_neg (by omega), tmod_nn x 2 hx]
    simp
  | n + 1, k + 1, x, i, h0, h1, hk, hx, hx2 => by
    simp only [complineref18_Has.l0]
    rw [if_pos (by omega), tq x 2 hx, wrap_u64 _ (by omega) (by omega), w64 (i + 1) (by omega) (by omega), rHas_l0 v hv n k (x / 2) (i + 1) (by omega) (by omega) (by omega) (by omega) (by omega)]
    obtain ⟨X, rfl⟩ := Int.eq_ofNat_of_zero_le hx
    have h2 := congrArg (Nat.cast : Nat → Int) (show X / 2 / 2 ^ n = X / 2 ^ (n + 1) by rw [Nat.div_div_eq_div_mul, Nat.pow_succ, Nat.mul_comm])
    push_cast at h2
    rw [h2]
theorem bit_nat (B n : Nat) : ((((B : Nat) : Int) / 2 ^ n) % 2 == 1) = B.testBit n := by
  rw [show ((B : Nat) : Int) / 2 ^ n = ((B / 2 ^ n : Nat) : Int) by push_cast; rfl, Nat.testBit_eq_decide_div_mod_eq]
  generalize B / 2 ^ n = x
  rw [Bool.eq_iff_iff]
  simp
  omega
theorem rHas (b v : Int) (s : Bool) (hb : U64 b) (k : Nat) (hk : 70 ≤ k) : complineref18_Has.f k b s v = some (hasB b v) := by
  obtain ⟨k, rfl⟩ : ∃ j, k = j + 1 := ⟨k - 1, by omega⟩
  obtain ⟨B, rfl⟩ := Int.eq_ofNat_of_zero_le hb.1
  unfold complineref18_Has.f hasB
  by_cases h0 : v < 0
  · rw [if_pos h0]; simp only [complineref18_Has.j0]; rw [if_pos trivial, show decide (0 ≤ v) = false by simp; omega]; rfl
  · rw [if_neg h0]
    simp only [complineref18_Has.j0]
    by_cases h1 : v > 63
    · rw [if_pos (by simpa using h1)]; simp; omega
    · rw [if_neg (by simpa using h1), rHas_l0 v (by omega) v.toNat k _ 0 (by omega) (by omega) (by omega) hb.1 hb.2, bit_nat]
      rw [show decide (0 ≤ v) = true by simp; omega, show decide (v < 64) = true by simp; omega]
      simp
theorem has_nat (B i : Nat) (hi : i < 64) : hasB (B : Int) (i : Int) = B.testBit i := by
  unfold hasB
  rw [show decide ((0 : Int) ≤ (i : Int)) = true by simp, show decide ((i : Int) < 64) = true by simp; omega]
  simp
theorem pop_step (B i : Nat) (hi : i < 64) : popN (B / 2 ^ i) (64 - i) = (if B.testBit i = true then 1 else 0) + popN (B / 2 ^ (i + 1)) (64 - (i + 1)) := by
  obtain ⟨n, hn⟩ : ∃ n, 64 - i = n + 1 := ⟨63 - i, by omega⟩
  rw [hn, show 64 - (i + 1) = n by omega]
  simp only [popN]
  rw [Nat.div_div_eq_div_mul, ← Nat.pow_succ, Nat.testBit_eq_decide_div_mod_eq]
  congr 1
  rcases Nat.mod_two_eq_zero_or_one (B / 2 ^ i) with e | e <;> simp [e]
def finC (c : Int) (s : Bool) (lo hi : Int) : Int := if c = 0 then 2 else if s = true then if c = hi - lo + 1 then 0 else 2 else 0
theorem rChk_end (k : Nat) (lo hi c i : Int) (b : Int) (s : Bool) (hl : 0 ≤ lo ∧ lo ≤ hi ∧ hi ≤ 59) (hi' : ¬ i < 64) : complineref18_Check.l0 (k + 1) lo hi c i b s = some (finC c s lo hi) := by
  simp only [complineref18_Check.l0]
  rw [if_neg hi', w64 (hi - lo) (by omega) (by omega), w64 (hi - lo + 1) (by omega) (by omega)]
  unfold finC
  repeat' split <;> first | rfl | skip
theorem rChk_good (B : Nat) (s : Bool) (lo hi : Int) (hB : B < 2 ^ 64) (hl : 0 ≤ lo ∧ lo ≤ hi ∧ hi ≤ 59) : ∀ (n k : Nat) (c : Int) (i : Nat), i + n = 64 → 0 ≤ c → c ≤ i → 2 * n + 75 ≤ k →
    (∀ j, i ≤ j → j < 64 → B.testBit j = true → lo ≤ j ∧ (j : Int) ≤ hi) → complineref18_Check.l0 k lo hi c i (B : Int) s = some (finC (c + (popN (B / 2 ^ i) (64 - i) : Nat)) s lo hi)
  | 0, k + 1, c, i, hi', _, _, _, _ => by
    rw [rChk_end k lo hi c i _ s hl (by omega), show 64 - i = 0 by omega]
    simp [popN]
  | n + 1, k + 2, c, i, hi', hc, hc2, hk, hj => by
    have hb : U64 (B : Int) := ⟨by omega, by omega⟩
    have ih0 := rChk_good B s lo hi hB hl n k c (i + 1) (by omega) hc (by omega) (by omega) (fun j h1 h2 h3 => hj j (by omega) h2 h3)
    have ih1 := rChk_good B s lo hi hB hl n k (c + 1) (i + 1) (by omega) (by omega) (by omega) (by omega) (fun j h1 h2 h3 => hj j (by omega) h2 h3)
    rw [show ((i + 1 : Nat) : Int) = (i : Int) + 1 by omega] at ih0 ih1
    rw [pop_step B i (by omega)]
    simp only [complineref18_Check.l0]
    rw [if_pos (by omega), rHas _ _ _ hb (k + 1) (by omega), has_nat B i (by omega), Option.bind_some]
    cases hbit : B.testBit i
    · simp only [complineref18_Check.j1]
      simp only [Bool.false_eq_true, if_false]
      rw [w64 ((i : Int) + 1) (by omega) (by omega), ih0]
      simp
    · obtain ⟨h1, h2⟩ := hj i (by omega) (by omega) hbit
      simp only [complineref18_Check.j1]
      rw [if_pos trivial, if_neg (show ¬ (i : Int) < lo by omega), if_neg (by simp; omega), if_pos trivial, w64 ((i : Int) + 1) (by omega) (by omega), w64 (c + 1) (by omega) (by omega), ih1]
      congr 2
      simp
      omega
theorem rChk_bad (B : Nat) (s : Bool) (lo hi : Int) (hB : B < 2 ^ 64) (hl : 0 ≤ lo ∧ lo ≤ hi ∧ hi ≤ 59) : ∀ (n k : Nat) (c : Int) (i : Nat), i + n = 64 → 0 ≤ c → c ≤ i → 2 * n + 75 ≤ k →
    (∃ j, i ≤ j ∧ j < 64 ∧ B.testBit j = true ∧ ¬ (lo ≤ j ∧ (j : Int) ≤ hi)) → complineref18_Check.l0 k lo hi c i (B : Int) s = some 2
  | 0, k + 1, c, i, hi', _, _, _, ⟨j, h1, h2, _⟩ => by omega
  | n + 1, k + 2, c, i, hi', hc, hc2, hk, ⟨j, j1, j2, j3, j4⟩ => by
    have hb : U64 (B : Int) := ⟨by omega, by omega⟩
    simp only [complineref18_Check.l0]
    rw [if_pos (by omega), rHas _ _ _ hb (k + 1) (by omega), has_nat B i (by omega), Option.bind_some]
    by_cases hij : j = i
    · subst hij
      rw [j3, if_pos rfl]
      by_cases h1 : (j : Int) < lo
      · rw [if_pos h1]; simp only [complineref18_Check.j1]; rw [if_pos trivial]
      · rw [if_neg h1]; simp only [complineref18_Check.j1]; rw [if_pos (by simp; omega)]
    · have hx : ∃ j, i + 1 ≤ j ∧ j < 64 ∧ B.testBit j = true ∧ ¬ (lo ≤ j ∧ (j : Int) ≤ hi) := ⟨j, by omega, j2, j3, j4⟩
      have ih0 := rChk_bad B s lo hi hB hl n k c (i + 1) (by omega) hc (by omega) (by omega) hx
      have ih1 := rChk_bad B s lo hi hB hl n k (c + 1) (i + 1) (by omega) (by omega) (by omega) (by omega) hx
      rw [show ((i + 1 : Nat) : Int) = (i : Int) + 1 by omega] at ih0 ih1
      have hw := w64 ((i : Int) + 1) (by omega) (by omega)
      have hw2 := w64 (c + 1) (by omega) (by omega)
      cases hbit : B.testBit i
      · simp only [complineref18_Check.j1, Bool.false_eq_true, if_false]
        rw [hw, ih0]
      · rw [if_pos rfl]
        simp only [complineref18_Check.j1]
        by_cases h1 : (i : Int) < lo
        · rw [if_pos h1, if_pos trivial]
        · rw [if_neg h1]
          by_cases h2 : (i : Int) > hi
          · rw [if_pos (by simpa using h2)]
          · rw [if_neg (by simpa using h2), if_pos trivial, hw, hw2, ih1]
theorem pop_sub : ∀ (n B A : Nat), (∀ j, j < n → B.testBit j = true → A.testBit j = true) → popN B n ≤ popN A n ∧ (popN B n = popN A n → B % 2 ^ n = A % 2 ^ n)
  | 0, B, A, _ => by simp [popN, Nat.mod_one]
  | n + 1, B, A, h => by
    have h0 := h 0 (by omega)
    rw [Nat.testBit_zero, Nat.testBit_zero] at h0
    simp only [decide_eq_true_eq] at h0
    obtain ⟨i1, i2⟩ := pop_sub n (B / 2) (A / 2) (fun j hj hb => by
      have := h (j + 1) (by omega)
      rw [Nat.testBit_add_one, Nat.testBit_add_one] at this
      exact this hb)
    simp only [popN]
    refine ⟨by omega, fun he => ?_⟩
    have i3 := i2 (by omega)
    rw [show 2 ^ (n + 1) = 2 * 2 ^ n by rw [Nat.pow_succ, Nat.mul_comm], Nat.mod_mul, Nat.mod_mul, i3]
    omega
theorem pop_zero : ∀ n, popN 0 n = 0
  | 0 => rfl
  | n + 1 => by simp only [popN]; rw [show 0 / 2 = 0 from rfl, pop_zero n]
theorem and_out (B A : Nat) (hA : A < 2 ^ 64) (hB : B < 2 ^ 64) : B &&& (18446744073709551615 - A) = 0 ↔ ∀ j, j < 64 → B.testBit j = true → A.testBit j = true := by
  rw [show 18446744073709551615 - A = 2 ^ 64 - (A + 1) by omega]
  constructor
  · intro h j hj hb
    have := congrArg (fun x => x.testBit j) h
    simp only [Nat.testBit_and, Nat.zero_testBit] at this
    rw [Nat.testBit_two_pow_sub_succ hA, hb, show decide (j < 64) = true by simpa using hj] at this
    simpa using this
  · intro h
    apply Nat.eq_of_testBit_eq
    intro j
    rw [Nat.testBit_and, Nat.zero_testBit, Nat.testBit_two_pow_sub_succ hA]
    by_cases hj : j < 64
    · cases hb : B.testBit j
      · rfl
      · rw [h j hj hb]; simp
    · simp [hj]
theorem rLimits (kind : Int) (h0 : 0 ≤ kind) (h1 : kind ≤ 4) : complineref18_limits.f kind = some (loI kind, hiI kind, 0) := by
  obtain rfl | rfl | rfl | rfl | rfl : kind = 0 ∨ kind = 1 ∨ kind = 2 ∨ kind = 3 ∨ kind = 4 := by omega
  all_goals decide +kernel
theorem kind_facts (kind : Int) (h0 : 0 ≤ kind) (h1 : kind ≤ 4) : (0 ≤ loI kind ∧ loI kind ≤ hiI kind ∧ hiI kind ≤ 59) ∧ (allB kind).toNat < 2 ^ 64 ∧ 0 ≤ allB kind ∧ (popN (allB kind).toNat 64 : Int) = hiI kind - loI kind + 1
    ∧ ∀ j, j < 64 → ((allB kind).toNat.testBit j = true ↔ (loI kind ≤ j ∧ (j : Int) ≤ hiI kind)) := by
  obtain rfl | rfl | rfl | rfl | rfl : kind = 0 ∨ kind = 1 ∨ kind = 2 ∨ kind = 3 ∨ kind = 4 := by omega
  all_goals decide +kernel
theorem rCheck (b kind : Int) (s : Bool) (hb : U64 b) (h0 : 0 ≤ kind) (h1 : kind ≤ 4) (k : Nat) (hk : 210 ≤ k) : complineref18_Check.f k b s kind = some (chkI b s kind) := by
  obtain ⟨B, rfl⟩ := Int.eq_ofNat_of_zero_le hb.1
  have hB : B < 2 ^ 64 := by have := hb.2; omega
  obtain ⟨hl, hA, hA0, hp, hbits⟩ := kind_facts kind h0 h1
  unfold complineref18_Check.f
  rw [rLimits kind h0 h1, Option.bind_some, if_pos rfl]
  unfold chkI
  rw [if_neg (by omega)]
  rw [show ((B : Nat) : Int).toNat = B from rfl]
  generalize hAA : (allB kind).toNat = A at *
  have hAe : allB kind = (A : Int) := by omega
  rw [hAe]
  by_cases hg : ∀ j, 0 ≤ j → j < 64 → B.testBit j = true → loI kind ≤ j ∧ (j : Int) ≤ hiI kind
  · have e := rChk_good B s (loI kind) (hiI kind) hB hl 64 k 0 0 (by omega) (by omega) (by omega) (by omega) hg
    have hsub : ∀ j, j < 64 → B.testBit j = true → A.testBit j = true := fun j hj hb => (hbits j hj).2 (hg j (by omega) hj hb)
    have hout := (and_out B A hA hB).2 hsub
    rw [show ((0 : Nat) : Int) = 0 from rfl] at e
    simp only [Nat.pow_zero, Nat.div_one, Int.zero_add, Nat.sub_zero] at e
    rw [e]
    obtain ⟨p1, p2⟩ := pop_sub 64 B A hsub
    obtain ⟨z1, z2⟩ := pop_sub 64 0 B (fun j _ h => by rw [Nat.zero_testBit] at h; cases h)
    rw [pop_zero, Nat.zero_mod, Nat.mod_eq_of_lt hB] at z2
    rw [Nat.mod_eq_of_lt hB, Nat.mod_eq_of_lt hA] at p2
    unfold finC
    by_cases hB0 : B = 0
    · subst hB0
      rw [pop_zero]
      simp
    · have hne : popN B 64 ≠ 0 := fun h => hB0 (z2 h.symm).symm
      rw [if_neg (show ¬ ((popN B 64 : Nat) : Int) = 0 by omega), if_neg (show ¬ ((B : Nat) : Int) = 0 by omega), if_neg (show ¬ (B &&& (18446744073709551615 - A) ≠ 0) by rw [hout]; simp), ← hp]
      cases s
      · rw [if_neg (by decide), if_neg (by simp)]
      · rw [if_pos rfl]
        by_cases hq : B = A
        · subst hq
          rw [if_pos rfl, if_neg (by simp)]
        · have : popN B 64 ≠ popN A 64 := fun h => hq (p2 h)
          rw [if_neg (by omega), if_pos ⟨rfl, by omega⟩]
  · have hx : ∃ j, 0 ≤ j ∧ j < 64 ∧ B.testBit j = true ∧ ¬ (loI kind ≤ j ∧ (j : Int) ≤ hiI kind) := by
      refine Classical.byContradiction fun hn => hg fun j a b c => Classical.byContradiction fun d => hn ⟨j, a, b, c, d⟩
    have e := rChk_bad B s (loI kind) (hiI kind) hB hl 64 k 0 0 (by omega) (by omega) (by omega) (by omega) hx
    rw [show ((0 : Nat) : Int) = 0 from rfl] at e
    rw [e]
    obtain ⟨j, _, j2, j3, j4⟩ := hx
    by_cases hB0 : B = 0
    · subst hB0; rw [Nat.zero_testBit] at j3; cases j3
    · rw [if_neg (by omega : ¬ ((B : Int) = 0)), if_pos]
      intro h
      exact j4 ((hbits j j2).1 ((and_out B A hA hB).1 h j j2 j3))
def flds (x : Sp) : List S24 := [⟨x.m.b, x.m.s⟩, ⟨x.h.b, x.h.s⟩, ⟨x.d.b, x.d.s⟩, ⟨x.n.b, x.n.s⟩, ⟨x.w.b, x.w.s⟩]
theorem chk_step (x : Sp) (k : Nat) (i j : Int) (b : Int) (s : Bool) (hj : i + 1 = j) (h0 : 0 ≤ i) (h1 : i ≤ 4) (hk : 210 ≤ k) (hb : U64 b) (hr : rd_T24 (flds x) i = ⟨b, s⟩) :
    complineref19_Check.l0 (k + 1) (flds x) i = if chkI b s i = 0 then complineref19_Check.l0 k (flds x) j else some (j, chkI b s i) := by
  subst hj
  simp only [complineref19_Check.l0]
  rw [if_pos (by omega), if_pos h0, if_pos (by show i < ((flds x).length : Int); simp [flds]; omega), hr, rCheck b i s hb h0 h1 k hk, Option.bind_some, w64 (i + 1) (by omega) (by omega)]
theorem rChk19 (x : Sp) (hx : x.Ok) (k : Nat) (hk : 220 ≤ k) : complineref19_Check.f k x.m.b x.m.s x.h.b x.h.s x.d.b x.d.s x.n.b x.n.s x.w.b x.w.s = some (spChk x) := by
  obtain ⟨k, rfl⟩ : ∃ j, k = j + 6 := ⟨k - 6, by omega⟩
  show complineref19_Check.l0 (k + 6) (flds x) 0 = _
  unfold spChk
  rw [chk_step x (k + 5) 0 1 x.m.b x.m.s (by omega) (by omega) (by omega) (by omega) hx.m rfl]
  by_cases h1 : chkI x.m.b x.m.s 0 = 0
  · rw [if_pos h1, if_neg (by simpa using h1), chk_step x (k + 4) 1 2 x.h.b x.h.s (by omega) (by omega) (by omega) (by omega) hx.h rfl]
    by_cases h2 : chkI x.h.b x.h.s 1 = 0
    · rw [if_pos h2, if_neg (by simpa using h2), chk_step x (k + 3) 2 3 x.d.b x.d.s (by omega) (by omega) (by omega) (by omega) hx.d rfl]
      by_cases h3 : chkI x.d.b x.d.s 2 = 0
      · rw [if_pos h3, if_neg (by simpa using h3), chk_step x (k + 2) 3 4 x.n.b x.n.s (by omega) (by omega) (by omega) (by omega) hx.n rfl]
        by_cases h4 : chkI x.n.b x.n.s 3 = 0
        · rw [if_pos h4, if_neg (by simpa using h4), chk_step x (k + 1) 4 5 x.w.b x.w.s (by omega) (by omega) (by omega) (by omega) hx.w rfl]
          by_cases h5 : chkI x.w.b x.w.s 4 = 0
          · rw [if_pos h5, if_neg (by simpa using h5)]
            simp only [complineref19_Check.l0]
            rw [if_neg (by omega)]
          · rw [if_neg h5, if_pos h5]
        · rw [if_neg h4, if_pos h4]
      · rw [if_neg h3, if_pos h3]
    · rw [if_neg h2, if_pos h2]
  · rw [if_neg h1, if_pos h1]

end Go.Proofs.YtkdejfedigiohaaGreatDoor

/- The document's answer for a field's text: its walk. -/
namespace Go.Proofs.YtkdejfedigiohaaGreatDoor
open Go.RowKit Go.Proofs.YtkdejfedigiohaaGreatDoorW.PrintWords Go.Proofs.YtkdejfedigiohaaGreatDoorW.PrintLast Go.Proofs.YtkdejfedigiohaaGreatDoorW.PrintMore
set_option linter.unusedVariables false
set_option linter.unusedSimpArgs false

open Go.Proofs.YtkdejfedigiohaaGreatDoor.PS

theorem rcheck_any (b : Int) (s : Bool) (kind : Int) (w : World) (hb : U64 b) :
    Calls Tryz.prog 62 #[.agg #[.int .u64 b, .bool s], .int .i64 kind] w fun e w' => e = .returned (.int .i64 (chkI b s kind)) ∧ Below w.heap.size w w' := by
  by_cases hk : 0 ≤ kind ∧ kind ≤ 4
  · exact complineref18_Check.calls 210 _ _ _ _ w (rCheck b kind s hb hk.1 hk.2 210 (by omega))
  · refine complineref18_Check.calls 210 _ _ _ _ w ?_
    have a0 : kind ≠ 0 := by omega
    have a1 : kind ≠ 1 := by omega
    have a2 : kind ≠ 2 := by omega
    have a3 : kind ≠ 3 := by omega
    have a4 : kind ≠ 4 := by omega
    unfold chkI
    rw [if_pos (by omega)]
    simp [complineref18_Check.f, complineref18_limits.f, complineref17_Limits.f, a0, a1, a2, a3, a4]

theorem rFirst_l0 (B : Nat) (s : Bool) (hB : B < 2 ^ 64) : ∀ (n k v : Nat), 64 - v = n → n + 75 ≤ k → complineref18_First.l0 k (v : Int) (B : Int) s = some (firstI B v)
  | 0, k + 1, v, hn, hk => by
    simp only [complineref18_First.l0]
    rw [if_neg (by omega), firstI_none]
    unfold firstN
    rw [hn]
    rfl
  | n + 1, k + 1, v, hn, hk => by
    have hb : U64 (B : Int) := ⟨by omega, by omega⟩
    have ih := rFirst_l0 B s hB n k (v + 1) (by omega) (by omega)
    rw [show ((v + 1 : Nat) : Int) = (v : Int) + 1 by omega] at ih
    simp only [complineref18_First.l0]
    rw [if_pos (by omega), rHas _ _ _ hb k (by omega), has_nat B v (by omega), Option.bind_some, w64 _ (by omega) (by omega), ih]
    have e : firstN B v = if B.testBit v then some v else firstN B (v + 1) := by
      unfold firstN
      rw [hn, show 64 - (v + 1) = n by omega]
      rfl
    cases hbit : B.testBit v
    · rw [hbit] at e
      rw [if_neg (by decide)]
      unfold firstI
      rw [e]
      rfl
    · rw [hbit] at e
      rw [if_pos rfl]
      unfold firstI
      rw [e]
      rfl
theorem rfirst_any (B v : Nat) (s : Bool) (w : World) (hB : B < 18446744073709551616) :
    Calls Tryz.prog 63 #[.agg #[.int .u64 (B : Int), .bool s], .int .i64 (v : Int)] w fun e w' => e = .returned (.tuple #[.int .i64 (firstI B v).1, .bool (firstI B v).2]) ∧ Below w.heap.size w w' := by
  refine complineref18_First.calls 200 _ _ _ _ _ w ?_
  show complineref18_First.l0 200 (mx (v : Int) 0) (B : Int) s = _
  rw [show mx (v : Int) 0 = (v : Int) by unfold mx; split <;> omega]
  exact rFirst_l0 B s hB _ 200 v rfl (by omega)
theorem rEnd_l0 (B : Nat) (s : Bool) (hB : B < 2 ^ 64) : ∀ (n k v : Nat), 64 - v = n → v ≤ 63 → n + 75 ≤ k → complineref20_end.l0 k (v : Int) (B : Int) s = some ((endF B n v : Nat) : Int)
  | 0, k, v, hn, hv, hk => by omega
  | n + 1, k + 1, v, hn, hv, hk => by
    have hb : U64 (B : Int) := ⟨by omega, by omega⟩
    simp only [complineref20_end.l0, endF]
    rw [w64 _ (by omega) (by omega), rHas _ _ _ hb k (by omega), show ((v : Int) + 1) = ((v + 1 : Nat) : Int) by omega, hasB_nat, Option.bind_some]
    by_cases h63 : v + 1 < 64
    · rw [show decide (v + 1 < 64) = true by simpa using h63, Bool.true_and]
      cases hbit : B.testBit (v + 1)
      · rfl
      · rw [if_pos rfl, if_pos rfl]
        exact rEnd_l0 B s hB n k (v + 1) (by omega) (by omega) (by omega)
    · rw [show decide (v + 1 < 64) = false by simpa using h63, Bool.false_and, bit_small hB (by omega)]
      rfl
theorem rend_any (B v : Nat) (s : Bool) (w : World) (hB : B < 18446744073709551616) (hv : v ≤ 63) :
    Calls Tryz.prog 64 #[.agg #[.int .u64 (B : Int), .bool s], .int .i64 (v : Int)] w fun e w' => e = .returned (.int .i64 ((endN B v : Nat) : Int)) ∧ Below w.heap.size w w' :=
  complineref20_end.calls 200 _ _ _ _ w (rEnd_l0 B s hB _ 200 v rfl hv (by omega))

theorem rdig_any (n : Nat) (w : World) (hn : n < 64) :
    Calls Tryz.prog 100 #[.int .i64 (n : Int)] w fun e w' => e = .returned (.string ⟨(dg n).toArray⟩) ∧ Below w.heap.size w w' := by
  have : ∀ n : Nat, n < 64 → PD.complineref20_Digits.f 5 (n : Int) = some ⟨(dg n).toArray⟩ := by decide +kernel
  exact PD.complineref20_Digits.calls 5 _ _ w (this n hn)
theorem ret_str {a b : ByteArray} (h : a = b) : Ending.returned (.string a) = .returned (.string b) := by rw [h]
theorem ret2_str {a b : ByteArray} {n : Int} (h : a = b) : Ending.returned (.tuple #[.string a, .int .i64 n]) = .returned (.tuple #[.string b, .int .i64 n]) := by rw [h]
theorem str_eq {a b : ByteArray} (h : a = b) : Value.string a = Value.string b := by rw [h]
theorem app_bytes (a b : List UInt8) : (⟨a.toArray⟩ ++ ⟨b.toArray⟩ : ByteArray) = ⟨(a ++ b).toArray⟩ := ByteArray.mk_append_mk _ _

set_option maxRecDepth 100000 in
set_option maxHeartbeats 2000000 in
theorem rrun_any (p q : Nat) (w : World) (hp : p ≤ q) (hq : q < 64) :
    Calls Tryz.prog 65 #[.int .i64 (p : Int), .int .i64 (q : Int)] w fun e w' => e = .returned (.string ⟨(runL (p, q)).toArray⟩) ∧ Below w.heap.size w w' := by
  have hP := fun w => Lib.hid (rdig_any p w (by omega))
  have hQ := fun w => Lib.hid (rdig_any q w hq)
  have l1 := dg_le p
  have l2 := dg_le q
  have bq : (q : Int) ≤ 63 := by omega
  have bp : (p : Int) ≤ 63 := by omega
  by_cases e0 : q = p
  · subst e0
    rw [show runL (q, q) = dg q by simp [runL]]
    go_enter Tryz.func65, Tryz.ntmps65
    go_wp2_with fail
    refine (hQ _).out.mono ?_
    rintro e w1 ⟨rfl, hb⟩
    go_wp2
    go_ret
    exact ⟨rfl, hb⟩
  · have b0 : ((q : Int) == p) = false := by rw [beq_eq_false_iff_ne]; omega
    by_cases e1 : q = p + 1
    · have b1 : ((q : Int) == p + 1) = true := by rw [beq_iff_eq]; omega
      rw [show runL (p, q) = dg p ++ [44] ++ dg q by unfold runL; rw [if_neg e0, if_pos e1]; simp]
      have e0H := Lib.hid e0
      have e1H := Lib.hid e1
      clear e0 e1
      go_enter Tryz.func65, Tryz.ntmps65
      go_wp2_with fail
      refine (hP _).out.mono ?_
      rintro e w1 ⟨rfl, hb⟩
      go_wp2_with fail
      refine (hQ _).out.mono ?_
      rintro e w2 ⟨rfl, hb2⟩
      have hB := hb.trans (hb2.mono hb.size)
      clear hb hb2
      go_wp2
      go_ret
      exact ⟨ret_str (by rw [show (⟨#[44]⟩ : ByteArray) = ⟨[44].toArray⟩ from rfl, app_bytes, app_bytes]), hB⟩
    · have b1 : ((q : Int) == p + 1) = false := by rw [beq_eq_false_iff_ne]; omega
      rw [show runL (p, q) = dg p ++ [45] ++ dg q by unfold runL; rw [if_neg e0, if_neg e1]; simp]
      have e0H := Lib.hid e0
      have e1H := Lib.hid e1
      clear e0 e1
      go_enter Tryz.func65, Tryz.ntmps65
      go_wp2_with fail
      refine (hP _).out.mono ?_
      rintro e w1 ⟨rfl, hb⟩
      go_wp2_with fail
      refine (hQ _).out.mono ?_
      rintro e w2 ⟨rfl, hb2⟩
      have hB := hb.trans (hb2.mono hb.size)
      clear hb hb2
      go_wp2
      go_ret
      exact ⟨ret_str (by rw [show (⟨#[45]⟩ : ByteArray) = ⟨[45].toArray⟩ from rfl, app_bytes, app_bytes]), hB⟩

set_option maxRecDepth 100000 in
set_option maxHeartbeats 2000000 in
theorem rfield_bad (b : Int) (s : Bool) (kind : Int) (w : World) (hb : U64 b) (h : chkI b s kind ≠ 0) :
    Calls Tryz.prog 27 #[.agg #[.int .u64 b, .bool s], .int .i64 kind] w fun e w' => e = .returned (.tuple #[.string ⟨#[]⟩, .int .i64 (chkI b s kind)]) ∧ Below w.heap.size w w' := by
  have hne : (chkI b s kind != 0) = true := by simpa using h
  have hC := fun w => Lib.hid (rcheck_any b s kind w hb)
  clear h
  generalize chkI b s kind = c at *
  go_enter Tryz.func27, Tryz.ntmps27
  go_wp2_with fail
  refine (hC _).out.mono ?_
  rintro e w1 ⟨rfl, hb⟩
  go_wp2
  go_ret2
  exact ⟨rfl, ((Below.refl _ _).alloc (Nat.le_refl _) _).trans (hb.mono (by simp))⟩

set_option maxRecDepth 100000 in
set_option maxHeartbeats 2000000 in
theorem rfield_star (b : Int) (kind : Int) (w : World) (hb : U64 b) (h : chkI b true kind = 0) :
    Calls Tryz.prog 27 #[.agg #[.int .u64 b, .bool true], .int .i64 kind] w fun e w' => e = .returned (.tuple #[.string ⟨#[42]⟩, .int .i64 0]) ∧ Below w.heap.size w w' := by
  have hC := fun w => Lib.hid (rcheck_any b true kind w hb)
  rw [h] at hC
  clear h
  go_enter Tryz.func27, Tryz.ntmps27
  go_wp2_with fail
  refine (hC _).out.mono ?_
  rintro e w1 ⟨rfl, hb⟩
  have hb0 : Below w.heap.size w w1 := ((Below.refl _ _).alloc (Nat.le_refl _) _).trans (hb.mono (by simp))
  have hI : w1.heap[w.heap.size]? = some (.cells #[.int .u64 b, .bool true] 24 (0, 0)) := blk_below (blk_new _ _) hb
  have c1 : w1.cell? ⟨w.heap.size, 1, none⟩ = some (.bool true) := blk_cell hI 1
  clear hb hI
  go_wp2
  go_ret2
  exact ⟨rfl, hb0⟩

set_option maxRecDepth 100000 in
set_option maxHeartbeats 2000000 in
theorem rfield_runs (B : Nat) (kind : Int) (w : World) (hB : B < 18446744073709551616) (h : chkI (B : Int) false kind = 0) :
    Calls Tryz.prog 27 #[.agg #[.int .u64 (B : Int), .bool false], .int .i64 kind] w fun e w' => e = .returned (.tuple #[.string ⟨(runsT [] (runsN B)).toArray⟩, .int .i64 0]) ∧ Below w.heap.size w w' := by
  have hC := fun w => Lib.hid (rcheck_any (B : Int) false kind w ⟨by omega, by omega⟩)
  rw [h] at hC
  clear h
  go_enter Tryz.func27, Tryz.ntmps27
  go_wp2_with fail
  refine (hC _).out.mono ?_
  rintro e w1 ⟨rfl, hb⟩
  have hb0 : Below w.heap.size w w1 := ((Below.refl _ _).alloc (Nat.le_refl _) _).trans (hb.mono (by simp))
  have hI : w1.heap[w.heap.size]? = some (.cells #[.int .u64 (B : Int), .bool false] 24 (0, 0)) := blk_below (blk_new _ _) hb
  have c0 : w1.cell? ⟨w.heap.size, 0, none⟩ = some (.int .u64 (B : Int)) := blk_cell hI 0
  have c1 : w1.cell? ⟨w.heap.size, 1, none⟩ = some (.bool false) := blk_cell hI 1
  have hIH := Lib.hid hI
  clear hb hI hC
  go_wp2_with fail
  refine (rfirst_any B 0 false w1 hB).mono ?_
  rintro e w2 ⟨rfl, hb⟩
  have hI2 := Lib.hid (blk_below hIH.out hb)
  have hB2 := hb0.trans (hb.mono hb0.size)
  clear hb hIH c0 c1 hb0
  go_wp2
  go_loopw [7, 8, 9] (fun t v o wr => ∃ (pre : List (Nat × Nat)) (k u : Nat), t = .string ⟨(runsT [] pre).toArray⟩ ∧ v = .int .i64 (firstI B u).1 ∧ o = .bool (firstI B u).2 ∧ 64 ≤ u + k ∧ Hid (runsN B = pre ++ runsF B k u)
      ∧ Hid (wr.heap[w.heap.size]? = some (.cells #[.int .u64 (B : Int), .bool false] 24 (0, 0))) ∧ Below w.heap.size w wr) (fun t v o _ => meaR v o)
  case atStart => exact ⟨[], 64, 0, rfl, rfl, rfl, by omega, rfl, hI2, hB2⟩
  case round =>
    obtain ⟨pre, k, u, rfl, rfl, rfl, hk, hE, hI, hB0⟩ := hrel
    clear hI2 hB2
    cases hf : firstN B u with
    | none =>
      have hEo : pre = runsN B := by
        rw [hE.out]
        cases k with
        | zero => simp [runsF]
        | succ k => simp [runsF, hf]
      rw [firstI_none hf]
      clear hE hf
      go_wp2
      go_ret2
      exact ⟨ret2_str (by rw [hEo]), hB0⟩
    | some p =>
      obtain ⟨hp1, hp2, hp3, hp4⟩ := firstN_some hf
      obtain ⟨he1, he2, he3, he4⟩ := endN_spec hB (v := p) hp2
      obtain ⟨k, rfl⟩ : ∃ j, k = j + 1 := ⟨k - 1, by omega⟩
      have hE2 := Lib.hid (show runsN B = (pre ++ [(p, endN B p)]) ++ runsF B k (endN B p + 1) by rw [hE.out]; simp [runsF, hf])
      have hlen : pre.length ≤ 64 := by
        have := runsF_len B 64 0
        have e := hE2.out
        unfold runsN at e
        rw [e] at this
        simp at this
        omega
      have hl := runsT_le pre []
      have hl3 : (runsT [] pre).length ≤ 384 := by simp at hl; omega
      have hEn := fun w => Lib.hid (rend_any B p false w hB (by omega))
      rw [firstI_some hf]
      clear hE hf hp3 hp4 he3 he4 hl hlen
      have hq1 : ((endN B p : Nat) : Int) ≤ 63 := by omega
      have hRn := fun w => Lib.hid (rrun_any p (endN B p) w he1 he2)
      have hlR := runL_le (p, endN B p)
      generalize endN B p = q at *
      have c0 := blk_cell hI.out 0
      have c1 := blk_cell hI.out 1
      simp only [List.getElem?_toArray, List.getElem?_cons_succ, List.getElem?_cons_zero] at c0 c1
      have hsn := Lib.hid (runsT_snoc [] pre (p, q))
      generalize hT : runsT [] pre = T at *
      generalize hR : runL (p, q) = R at *
      by_cases hT0 : T = []
      · subst hT0
        go_wp2_with fail
        refine (hEn _).out.mono ?_
        rintro e w3 ⟨rfl, hb⟩
        have hI3 := blk_below hI.out hb
        have hB3 := hB0.trans (hb.mono hB0.size)
        clear hb hI c0 c1 hEn
        have c0 := blk_cell hI3 0
        have c1 := blk_cell hI3 1
        simp only [List.getElem?_toArray, List.getElem?_cons_succ, List.getElem?_cons_zero] at c0 c1
        have hI3H := Lib.hid hI3
        clear hI3
        go_wp2_with fail
        refine (hRn _).out.mono ?_
        rintro e w4 ⟨rfl, hb⟩
        have hI4 := blk_below hI3H.out hb
        have hB4 := hB3.trans (hb.mono hB3.size)
        clear hb hI3H c0 c1 hRn
        have c0 := blk_cell hI4 0
        have c1 := blk_cell hI4 1
        simp only [List.getElem?_toArray, List.getElem?_cons_succ, List.getElem?_cons_zero] at c0 c1
        have hI4H := Lib.hid hI4
        clear hI4
        go_wp2_with fail
        refine (rfirst_any B (q + 1) false w4 hB).mono ?_
        rintro e w5 ⟨rfl, hb⟩
        have hI5 := Lib.hid (blk_below hI4H.out hb)
        have hB5 := hB4.trans (hb.mono hB4.size)
        clear hb hI4H c0 c1
        go_wp2
        go_roundw
        case rel => exact ⟨pre ++ [(p, q)], k, q + 1, str_eq (bytes_ext (by rw [hsn.out]; simp [pieceL, ByteArray.data_append])), rfl, rfl, by omega, hE2, hI5, hB5⟩
        case measure =>
          cases hg : firstN B (q + 1) with
          | none => rw [firstI_none hg]; simp [meaR, intOf]; omega
          | some r =>
            have := (firstN_some hg).1
            rw [firstI_some hg]; simp [meaR, intOf]; omega
      · have hT1 : (T == []) = false := by simpa using hT0
        have hT2 : (T != []) = true := by simpa using hT0
        have hT0H := Lib.hid hT0
        clear hT0
        go_wp2_with fail
        refine (hEn _).out.mono ?_
        rintro e w3 ⟨rfl, hb⟩
        have hI3 := blk_below hI.out hb
        have hB3 := hB0.trans (hb.mono hB0.size)
        clear hb hI c0 c1 hEn
        have c0 := blk_cell hI3 0
        have c1 := blk_cell hI3 1
        simp only [List.getElem?_toArray, List.getElem?_cons_succ, List.getElem?_cons_zero] at c0 c1
        have hI3H := Lib.hid hI3
        clear hI3
        go_wp2_with fail
        refine (hRn _).out.mono ?_
        rintro e w4 ⟨rfl, hb⟩
        have hI4 := blk_below hI3H.out hb
        have hB4 := hB3.trans (hb.mono hB3.size)
        clear hb hI3H c0 c1 hRn
        have c0 := blk_cell hI4 0
        have c1 := blk_cell hI4 1
        simp only [List.getElem?_toArray, List.getElem?_cons_succ, List.getElem?_cons_zero] at c0 c1
        have hI4H := Lib.hid hI4
        clear hI4
        go_wp2_with fail
        refine (rfirst_any B (q + 1) false w4 hB).mono ?_
        rintro e w5 ⟨rfl, hb⟩
        have hI5 := Lib.hid (blk_below hI4H.out hb)
        have hB5 := hB4.trans (hb.mono hB4.size)
        clear hb hI4H c0 c1
        go_wp2
        go_roundw
        case rel => exact ⟨pre ++ [(p, q)], k, q + 1, str_eq (bytes_ext (by rw [hsn.out]; unfold pieceL; rw [if_neg hT0H.out]; simp [ByteArray.data_append])), rfl, rfl, by omega, hE2, hI5, hB5⟩
        case measure =>
          cases hg : firstN B (q + 1) with
          | none => rw [firstI_none hg]; simp [meaR, intOf]; omega
          | some r =>
            have := (firstN_some hg).1
            rw [firstI_some hg]; simp [meaR, intOf]; omega

theorem rfield_any (b : Int) (s : Bool) (kind : Int) (w : World) (hb : U64 b) :
    Calls Tryz.prog 27 #[.agg #[.int .u64 b, .bool s], .int .i64 kind] w fun e w' => e = .returned (.tuple #[.string ⟨(fieldI b s kind).1.toArray⟩, .int .i64 (fieldI b s kind).2]) ∧ Below w.heap.size w w' := by
  by_cases h : chkI b s kind = 0
  · have e : fieldI b s kind = (fieldT b.toNat s, 0) := by unfold fieldI; rw [if_pos h]
    rw [e]
    cases s with
    | true => exact rfield_star b kind w hb h
    | false =>
      obtain ⟨B, rfl⟩ := Int.eq_ofNat_of_zero_le hb.1
      exact rfield_runs B kind w (by have := hb.2; omega) h
  · have e : fieldI b s kind = ([], chkI b s kind) := by unfold fieldI; rw [if_neg h]
    rw [e]
    exact rfield_bad b s kind w hb h

set_option maxRecDepth 100000 in
set_option maxHeartbeats 2000000 in
theorem fields_walk (b : Int) (s : Bool) (kind : Int) (w : World) (hb : U64 b) (hE : Env w) (hT : TabIn w) (h8 : 8 ≤ w.heap.size) :
    Calls Tryz.prog 8 #[.agg #[.int .u64 b, .bool s], .int .i64 kind] w fun e w' => e = .returned (.bool true) ∧ Below w.heap.size w w' := by
  have hF := fun W hW => Lib.hid (show_field b s kind W hb hW)
  have hR := fun W => Lib.hid (rfield_any b s kind W hb)
  have hEH := Lib.hid hE
  have hTH := Lib.hid hT
  clear hE hT
  go_enter Tryz.func8, Tryz.ntmps8
  go_wp2_with fail
  have hB0 : Below w.heap.size w (w.alloc (.cells #[.int .u64 b, .bool s] 24)) := (Below.refl _ _).alloc (Nat.le_refl _) _
  have hX0 : (w.alloc (.cells #[.int .u64 b, .bool s] 24)).heap[w.heap.size]? = some (.cells #[.int .u64 b, .bool s] 24 (0, 0)) := blk_new _ _
  generalize w.alloc (.cells #[.int .u64 b, .bool s] 24) = W1 at *
  refine (works20_ok W1 (hEH.out.below hB0) (hTH.out.on hB0) (Nat.le_trans h8 hB0.size)).mono ?_
  rintro e w1 ⟨rfl, hk⟩
  have hX1 := blk_below hX0 hk
  have hB1 := hB0.trans (hk.mono hB0.size)
  clear hk hX0 hB0
  have c0 : w1.cell? ⟨w.heap.size, 0, none⟩ = some (.int .u64 b) := blk_cell hX1 0
  have c1 : w1.cell? ⟨w.heap.size, 1, none⟩ = some (.bool s) := blk_cell hX1 1
  have hX1H := Lib.hid hX1
  clear hX1
  go_wp2_with fail
  refine (hF _ (hTH.out.on hB1)).out.mono ?_
  rintro e w2 ⟨rfl, hk⟩
  have hX2 := blk_below hX1H.out hk
  have hB2 := hB1.trans (hk.mono hB1.size)
  clear hk hB1 c0 c1 hF hX1H
  have c0 : w2.cell? ⟨w.heap.size, 0, none⟩ = some (.int .u64 b) := blk_cell hX2 0
  have c1 : w2.cell? ⟨w.heap.size, 1, none⟩ = some (.bool s) := blk_cell hX2 1
  clear hX2
  go_wp2_with fail
  refine (hR _).out.mono ?_
  rintro e w3 ⟨rfl, hk⟩
  have hB3 := hB2.trans (hk.mono hB2.size)
  clear hk hB2 c0 c1 hR
  go_wp2
  go_ret
  exact ⟨ret_bool (by simp), hB3⟩

end Go.Proofs.YtkdejfedigiohaaGreatDoor
