/- A field's functions, as plain functions of whole numbers and bits. -/
import Derived.Test.YtkdejfedigiohaaGreatDoorPRx2
import Derived.Laws.BitsAllLaws
namespace Go.Proofs.YtkdejfedigiohaaGreatDoor
open Go.RowKit Go.Proofs.YtkdejfedigiohaaGreatDoorW.PrintWords Go.Proofs.YtkdejfedigiohaaGreatDoorW.PrintLast Go.Proofs.YtkdejfedigiohaaGreatDoorW.PrintMore
set_option linter.unusedVariables false
set_option linter.unusedSimpArgs false

open Go.Proofs.YtkdejfedigiohaaGreatDoor.PR

/-- Is v a value of the bits? -/
def hasB (b v : Int) : Bool := decide (0 ≤ v) && (decide (v < 64) && b.toNat.testBit v.toNat)
/-- The bits of all values of a kind. -/
def allB (kind : Int) : Int := if kind = 0 then 1152921504606846975 else if kind = 1 then 16777215 else if kind = 2 then 4294967294 else if kind = 3 then 8190 else 127
def loI (kind : Int) : Int := if kind = 2 ∨ kind = 3 then 1 else 0
def hiI (kind : Int) : Int := if kind = 0 then 59 else if kind = 1 then 23 else if kind = 2 then 31 else if kind = 3 then 12 else 6
/-- What is wrong with a field of a kind. -/
def chkI (b : Int) (s : Bool) (kind : Int) : Int :=
  if kind < 0 ∨ 4 < kind then 7 else if b = 0 then 2 else if b.toNat &&& (18446744073709551615 - (allB kind).toNat) ≠ 0 then 2 else if s = true ∧ b ≠ allB kind then 2 else 0

def U64 (b : Int) : Prop := 0 ≤ b ∧ b < 18446744073709551616
theorem u64_wf {b : Int} (h : (Lit.int .u64 b).wf = true) : U64 b := by
  simp only [Lit.wf, Bool.and_eq_true, decide_eq_true_eq] at h
  have e1 : IntKind.u64.min = 0 := rfl
  have e2 : IntKind.u64.max = 18446744073709551615 := rfl
  rw [e1, e2] at h
  exact ⟨h.1, by omega⟩

theorem wrap_u64 (n : Int) (h0 : 0 ≤ n) (h1 : n < 18446744073709551616) : IntKind.u64.wrap n = n := by
  have e : IntKind.u64.wrap n = n % 18446744073709551616 := by simp [IntKind.wrap, IntKind.bits, IntKind.signed]
  rw [e]; omega
theorem has_f (b : Int) (s : Bool) (v : Int) (hb : U64 b) : field_Has.f b s v = some (hasB b v) := by
  unfold field_Has.f hasB
  by_cases h0 : 0 ≤ v
  · by_cases h1 : v < 64
    · rw [if_pos h0, if_pos h1, wrap_u64 v h0 (by omega), if_pos h0]
      obtain ⟨n, rfl⟩ := Int.eq_ofNat_of_zero_le h0
      obtain ⟨B, rfl⟩ := Int.eq_ofNat_of_zero_le hb.1
      have hn : n < 64 := by omega
      have hB : B < 18446744073709551616 := by have := hb.2; omega
      have e1 : shr .u64 (B : Int) (n : Int) = ((B / 2 ^ n : Nat) : Int) := by
        unfold shr
        rw [show min ((n : Int)).toNat IntKind.u64.bits = n by rw [show IntKind.u64.bits = 64 from rfl, Int.toNat_natCast]; omega]
        norm_cast
      rw [e1, show (1 : Int) = ((1 : Nat) : Int) from rfl, u64_and_nat _ _ (Nat.lt_of_le_of_lt (Nat.div_le_self _ _) hB) (by decide)]
      have hx : ∀ x : Nat, (((x % 2 : Nat) : Int) == ((1 : Nat) : Int)) = decide (x % 2 = 1) := by
        intro x; rw [Bool.eq_iff_iff]; simp; omega
      simp only [Int.toNat_natCast, Nat.testBit_eq_decide_div_mod_eq, Nat.and_one_is_mod, hx]
      simp [h1]
    · rw [if_pos h0, if_neg h1]; simp [h1]
  · rw [if_neg h0]; simp [h0]

theorem has_any (b : Int) (s : Bool) (v : Int) (w : World) (hb : U64 b) :
    Calls Tryz.prog 21 #[.agg #[.int .u64 b, .bool s], .int .i64 v] w fun e w' => e = .returned (.bool (hasB b v)) ∧ Below w.heap.size w w' :=
  field_Has.calls b s v _ w (has_f b s v hb)

theorem chk_shape (b M : Int) (s : Bool) (hb : U64 b) (h0 : 0 ≤ M) (h1 : M < 18446744073709551616) :
    (if b = 0 then some 2 else if Go.bits .andNot .u64 b M = 0 then (if s = true then (if b = M then some 0 else some 2) else some 0) else some (2 : Int)) =
      some (if b = 0 then 2 else if b.toNat &&& (18446744073709551615 - M.toNat) ≠ 0 then 2 else if s = true ∧ b ≠ M then 2 else 0) := by
  rw [u64_andNot b M hb.1 hb.2 h0 h1]
  by_cases c0 : b = 0
  · rw [if_pos c0, if_pos c0]
  · rw [if_neg c0, if_neg c0]
    by_cases c1 : b.toNat &&& (18446744073709551615 - M.toNat) = 0
    · simp only [c1]
      cases s <;> by_cases c3 : b = M <;> simp [c3]
    · have c2 : ¬ ((b.toNat &&& (18446744073709551615 - M.toNat) : Nat) : Int) = 0 := by intro h; exact c1 (by exact_mod_cast h)
      rw [if_neg c2, if_pos c1]
theorem check_f (b : Int) (s : Bool) (kind : Int) (hb : U64 b) : field_Check.f b s kind = some (chkI b s kind) := by
  have e0 : field_every.f 0 59 = some 1152921504606846975 := by kernel_rfl
  have e1 : field_every.f 0 23 = some 16777215 := by kernel_rfl
  have e2 : field_every.f 1 31 = some 4294967294 := by kernel_rfl
  have e3 : field_every.f 1 12 = some 8190 := by kernel_rfl
  have e4 : field_every.f 0 6 = some 127 := by kernel_rfl
  by_cases hk : kind < 0 ∨ 4 < kind
  · have a0 : kind ≠ 0 := by omega
    have a1 : kind ≠ 1 := by omega
    have a2 : kind ≠ 2 := by omega
    have a3 : kind ≠ 3 := by omega
    have a4 : kind ≠ 4 := by omega
    simp [field_Check.f, field_limits.f, lex_Limits.f, chkI, hk, a0, a1, a2, a3, a4]
  · have h5 : kind = 0 ∨ kind = 1 ∨ kind = 2 ∨ kind = 3 ∨ kind = 4 := by omega
    unfold chkI
    rw [if_neg hk]
    rcases h5 with rfl | rfl | rfl | rfl | rfl
    · rw [← chk_shape b (allB 0) s hb (by decide) (by decide)]; simp [field_Check.f, field_limits.f, lex_Limits.f, e0, allB]
    · rw [← chk_shape b (allB 1) s hb (by decide) (by decide)]; simp [field_Check.f, field_limits.f, lex_Limits.f, e1, allB]
    · rw [← chk_shape b (allB 2) s hb (by decide) (by decide)]; simp [field_Check.f, field_limits.f, lex_Limits.f, e2, allB]
    · rw [← chk_shape b (allB 3) s hb (by decide) (by decide)]; simp [field_Check.f, field_limits.f, lex_Limits.f, e3, allB]
    · rw [← chk_shape b (allB 4) s hb (by decide) (by decide)]; simp [field_Check.f, field_limits.f, lex_Limits.f, e4, allB]

theorem check_any (b : Int) (s : Bool) (kind : Int) (w : World) (hb : U64 b) :
    Calls Tryz.prog 32 #[.agg #[.int .u64 b, .bool s], .int .i64 kind] w fun e w' => e = .returned (.int .i64 (chkI b s kind)) ∧ Below w.heap.size w w' :=
  field_Check.calls b s kind _ w (check_f b s kind hb)

end Go.Proofs.YtkdejfedigiohaaGreatDoor
