/- The civil layer's functions: each comes to a plain function of whole numbers. -/
import Derived.Test.YtkdejfedigiohaaGreatDoorPRx2
import Derived.Test.YtkdejfedigiohaaGreatDoorPRx3
import Derived.IntWalk
import Derived.Lib.Hide
import Derived.Deep.QuietTactic
import Derived.BigQuiet
import Derived.Deep.LoopGhost
import Derived.Deep.Draws
namespace Go.Proofs.YtkdejfedigiohaaGreatDoor
open Go.RowKit Go.Proofs.YtkdejfedigiohaaGreatDoorW.PrintWords Go.Proofs.YtkdejfedigiohaaGreatDoorW.PrintLast Go.Proofs.YtkdejfedigiohaaGreatDoorW.PrintMore
set_option linter.unusedVariables false
set_option linter.unusedSimpArgs false

def leapB (y : Int) : Bool := decide (y % 4 = 0) && (!decide (y % 100 = 0) || decide (y % 400 = 0))
def len12 (m : Int) : Int := if m = 2 then 28 else if m = 4 ∨ m = 6 ∨ m = 9 ∨ m = 11 then 30 else 31
def lenI (y m : Int) : Int := if m < 1 ∨ 12 < m then 0 else if m = 2 ∧ leapB y = true then 29 else len12 m

def arr12 : Value := .agg #[.int .i64 31, .int .i64 28, .int .i64 31, .int .i64 30, .int .i64 31, .int .i64 30, .int .i64 31, .int .i64 31, .int .i64 30, .int .i64 31, .int .i64 30, .int .i64 31]
theorem idx12_0 (w : World) : (Instr.index 77 arr12 (.int .i64 0)).run Tryz.prog w = .ok (.int .i64 31) w := by kernel_rfl
theorem idx12_1 (w : World) : (Instr.index 77 arr12 (.int .i64 1)).run Tryz.prog w = .ok (.int .i64 28) w := by kernel_rfl
theorem idx12_2 (w : World) : (Instr.index 77 arr12 (.int .i64 2)).run Tryz.prog w = .ok (.int .i64 31) w := by kernel_rfl
theorem idx12_3 (w : World) : (Instr.index 77 arr12 (.int .i64 3)).run Tryz.prog w = .ok (.int .i64 30) w := by kernel_rfl
theorem idx12_4 (w : World) : (Instr.index 77 arr12 (.int .i64 4)).run Tryz.prog w = .ok (.int .i64 31) w := by kernel_rfl
theorem idx12_5 (w : World) : (Instr.index 77 arr12 (.int .i64 5)).run Tryz.prog w = .ok (.int .i64 30) w := by kernel_rfl
theorem idx12_6 (w : World) : (Instr.index 77 arr12 (.int .i64 6)).run Tryz.prog w = .ok (.int .i64 31) w := by kernel_rfl
theorem idx12_7 (w : World) : (Instr.index 77 arr12 (.int .i64 7)).run Tryz.prog w = .ok (.int .i64 31) w := by kernel_rfl
theorem idx12_8 (w : World) : (Instr.index 77 arr12 (.int .i64 8)).run Tryz.prog w = .ok (.int .i64 30) w := by kernel_rfl
theorem idx12_9 (w : World) : (Instr.index 77 arr12 (.int .i64 9)).run Tryz.prog w = .ok (.int .i64 31) w := by kernel_rfl
theorem idx12_10 (w : World) : (Instr.index 77 arr12 (.int .i64 10)).run Tryz.prog w = .ok (.int .i64 30) w := by kernel_rfl
theorem idx12_11 (w : World) : (Instr.index 77 arr12 (.int .i64 11)).run Tryz.prog w = .ok (.int .i64 31) w := by kernel_rfl
theorem idx12 (m : Int) (h1 : 1 ≤ m) (h2 : m ≤ 12) (w : World) :
    (Instr.index 77 (.agg #[.int .i64 31, .int .i64 28, .int .i64 31, .int .i64 30, .int .i64 31, .int .i64 30, .int .i64 31, .int .i64 31, .int .i64 30, .int .i64 31, .int .i64 30, .int .i64 31]) (.int .i64 (m - 1))).run Tryz.prog w = .ok (.int .i64 (len12 m)) w := by
  have h : m = 1 ∨ m = 2 ∨ m = 3 ∨ m = 4 ∨ m = 5 ∨ m = 6 ∨ m = 7 ∨ m = 8 ∨ m = 9 ∨ m = 10 ∨ m = 11 ∨ m = 12 := by omega
  rcases h with rfl | rfl | rfl | rfl | rfl | rfl | rfl | rfl | rfl | rfl | rfl | rfl
  · exact idx12_0 w
  · exact idx12_1 w
  · exact idx12_2 w
  · exact idx12_3 w
  · exact idx12_4 w
  · exact idx12_5 w
  · exact idx12_6 w
  · exact idx12_7 w
  · exact idx12_8 w
  · exact idx12_9 w
  · exact idx12_10 w
  · exact idx12_11 w

theorem tm0 (y : Int) (n : Int) : (y.tmod n = 0) = (y % n = 0) := by
  rw [← Int.dvd_iff_tmod_eq_zero, ← Int.dvd_iff_emod_eq_zero]
theorem tm0b (y : Int) (n : Int) : (y.tmod n == 0) = decide (y % n = 0) := by
  rw [Bool.eq_iff_iff]; simp [tm0]
theorem tm0n (y : Int) (n : Int) : (y.tmod n != 0) = !decide (y % n = 0) := by
  rw [bne, tm0b]
theorem ret_bool {a b : Bool} (h : a = b) : Ending.returned (.bool a) = .returned (.bool b) := by rw [h]
theorem ret_int {k : IntKind} {a b : Int} (h : a = b) : Ending.returned (.int k a) = .returned (.int k b) := by rw [h]

theorem leap_q (y : Int) (w : World) :
    Calls Tryz.prog 54 #[.int .i64 y] w fun e w' => e = .returned (.bool (leapB y)) ∧ w = w' := by
  go_enter Tryz.func54, Tryz.ntmps54
  go_wp2
  all_goals (go_ret; refine ⟨ret_bool ?_, rfl⟩; unfold leapB; simp only [tm0b, tm0n, tm0] at *; simp [*])

theorem length_q (y m : Int) (w : World) :
    Calls Tryz.prog 22 #[.int .i64 y, .int .i64 m] w fun e w' => e = .returned (.int .i64 (lenI y m)) ∧ w = w' := by
  by_cases h1 : m < 1
  · go_enter Tryz.func22, Tryz.ntmps22
    go_wp2
    go_ret; exact ⟨ret_int (by unfold lenI; rw [if_pos (by omega)]), rfl⟩
  · by_cases h2 : 12 < m
    · go_enter Tryz.func22, Tryz.ntmps22
      go_wp2
      go_ret; exact ⟨ret_int (by unfold lenI; rw [if_pos (by omega)]), rfl⟩
    · have g1 : 1 ≤ m := by omega
      have g2 : m ≤ 12 := by omega
      clear h1 h2
      by_cases h3 : m = 2
      · subst h3
        cases hl : leapB y
        · have i1 := idx12_1
          unfold arr12 at i1
          go_enter Tryz.func22, Tryz.ntmps22
          go_wp2_with (go_at_call 54; refine (leap_q y _).mono ?_; rintro e w' ⟨rfl, rfl⟩)
          go_ret; exact ⟨ret_int (by unfold lenI len12; simp [hl]), rfl⟩
        · go_enter Tryz.func22, Tryz.ntmps22
          go_wp2_with (go_at_call 54; refine (leap_q y _).mono ?_; rintro e w' ⟨rfl, rfl⟩)
          go_ret; exact ⟨ret_int (by unfold lenI; simp [hl]), rfl⟩
      · have hb : (m == 2) = false := by simpa using h3
        have i1 := idx12 m (by omega) (by omega)
        go_enter Tryz.func22, Tryz.ntmps22
        go_wp2
        go_ret; exact ⟨ret_int (by unfold lenI; rw [if_neg (by omega), if_neg (by omega)]), rfl⟩

def leapsI (y : Int) : Int := y / 4 - y / 100 + y / 400
def aheadI (y : Int) : Int := 365 * (y - 1970) + leapsI (y - 1) - 477
def goneN (y : Int) : Nat → Int
  | 0 => 0
  | n + 1 => goneN y n + lenI y ((n : Int) + 1)
/-- How many days of a year there are ahead of a month. -/
def goneI (y m : Int) : Int := goneN y (m - 1).toNat

theorem lenI_bd (y m : Int) : 0 ≤ lenI y m ∧ lenI y m ≤ 31 := by
  unfold lenI len12; repeat' split <;> omega
theorem goneN_bd (y : Int) (n : Nat) : 0 ≤ goneN y n ∧ goneN y n ≤ 31 * n := by
  induction n with
  | zero => simp [goneN]
  | succ n ih => have := lenI_bd y ((n : Int) + 1); simp only [goneN]; omega

theorem tq (y n : Int) (h : 0 ≤ y) : y.tdiv n = y / n := Int.tdiv_eq_ediv_of_nonneg h
theorem leaps_q (y : Int) (h0 : 0 ≤ y) (h1 : y ≤ 100000) (w : World) :
    Calls Tryz.prog 119 #[.int .i64 y] w fun e w' => e = .returned (.int .i64 (leapsI y)) ∧ w = w' := by
  go_enter Tryz.func119, Tryz.ntmps119
  go_wp2
  have e : y / 4 - y / 100 + y / 400 = leapsI y := rfl
  go_ret; exact ⟨ret_int e, rfl⟩

theorem ahead_q (y : Int) (h0 : 1 ≤ y) (h1 : y ≤ 10000) (w : World) :
    Calls Tryz.prog 86 #[.int .i64 y] w fun e w' => e = .returned (.int .i64 (aheadI y)) ∧ w = w' := by
  go_enter Tryz.func86, Tryz.ntmps86
  go_wp2_with (go_at_call 119; refine (leaps_q _ (by omega) (by omega) _).mono ?_; rintro e w' ⟨rfl, rfl⟩)
  go_ret; exact ⟨ret_int (by unfold aheadI leapsI; unfold wrap64; omega), rfl⟩

theorem gone_q (y m : Int) (h1 : 1 ≤ m) (h2 : m ≤ 13) (w : World) :
    Calls Tryz.prog 88 #[.int .i64 y, .int .i64 m] w fun e w' => e = .returned (.int .i64 (goneI y m)) ∧ w = w' := by
  go_enter Tryz.func88, Tryz.ntmps88
  go_wp2
  go_loop [5, 6] (fun n i => ∃ k : Nat, (k : Int) + 1 ≤ m ∧ n = .int .i64 (goneN y k) ∧ i = .int .i64 ((k : Int) + 1)) (fun _ i => (13 - intOf i).toNat)
  case atStart => exact ⟨0, by omega, rfl, rfl⟩
  case round =>
    obtain ⟨k, hk, rfl, rfl⟩ := hrel
    have b1 := goneN_bd y k
    have b2 := lenI_bd y ((k : Int) + 1)
    by_cases hlt : (k : Int) + 1 < m
    · go_wp2_with (go_at_call 22; refine (length_q _ _ _).mono ?_; rintro e w' ⟨rfl, rfl⟩)
      go_round
      case rel => exact ⟨k + 1, by omega, by simp only [goneN], by simp⟩
      case measure => simp [intOf]; omega
    · go_wp2
      go_ret
      exact ⟨ret_int (by unfold goneI; rw [show (m - 1).toNat = k by omega]), rfl⟩

theorem leaps_step (y : Int) : leapsI y - leapsI (y - 1) = if leapB y = true then 1 else 0 := by
  unfold leapsI leapB
  by_cases h4 : y % 4 = 0 <;> by_cases h1 : y % 100 = 0 <;> by_cases h9 : y % 400 = 0 <;> simp [h4, h1, h9] <;> omega
theorem ahead_step (y : Int) : aheadI (y + 1) = aheadI y + 365 + if leapB y = true then 1 else 0 := by
  have := leaps_step y
  unfold aheadI
  rw [show y + 1 - 1 = y by omega]
  omega
theorem ahead_le (y : Int) (n : Nat) : aheadI y ≤ aheadI (y + n) := by
  induction n with
  | zero => simp
  | succ n ih => have := ahead_step (y + n); rw [show y + ((n + 1 : Nat) : Int) = y + n + 1 by omega]; split at this <;> omega
theorem ahead_mono (a b : Int) (h : a ≤ b) : aheadI a ≤ aheadI b := by
  have := ahead_le a (b - a).toNat
  rwa [show a + ((b - a).toNat : Int) = b by omega] at this
theorem gone_year (y : Int) : goneN y 12 = 365 + if leapB y = true then 1 else 0 := by
  simp only [goneN, lenI, len12]
  cases leapB y <;> simp
theorem goneN_le (y : Int) (a n : Nat) : goneN y a ≤ goneN y (a + n) := by
  induction n with
  | zero => exact Int.le_refl _
  | succ n ih => have := lenI_bd y (((a + n : Nat) : Int) + 1); rw [show a + (n + 1) = (a + n) + 1 by omega]; simp only [goneN]; omega
theorem goneN_mono (y : Int) (a b : Nat) (h : a ≤ b) : goneN y a ≤ goneN y b := by
  have := goneN_le y a (b - a); rwa [show a + (b - a) = b by omega] at this
theorem goneI_bd (y m : Int) (h1 : 1 ≤ m) (h2 : m ≤ 13) : 0 ≤ goneI y m ∧ goneI y m ≤ 366 := by
  have h := goneN_mono y (m - 1).toNat 12 (by omega)
  have g := gone_year y
  have b := goneN_bd y (m - 1).toNat
  unfold goneI
  split at g <;> omega

/-- A day's date: which day of which month of which year it is. -/
structure IsDate (n y m d : Int) : Prop where
  y0 : 1970 ≤ y
  y1 : y ≤ 2999
  m0 : 1 ≤ m
  m1 : m ≤ 12
  d0 : 1 ≤ d
  d1 : d ≤ lenI y m
  sum : aheadI y + goneI y m + d - 1 = n
theorem goneI_next (y m : Int) (h : 1 ≤ m) : goneI y (m + 1) = goneI y m + lenI y m := by
  unfold goneI
  rw [show (m + 1 - 1).toNat = (m - 1).toNat + 1 by omega]
  simp only [goneN]
  rw [show (((m - 1).toNat : Nat) : Int) + 1 = m by omega]
theorem goneI_mono (y a b : Int) (h1 : a ≤ b) : goneI y a ≤ goneI y b := goneN_mono y _ _ (by omega)
theorem goneI_13 (y : Int) : goneI y 13 = 365 + if leapB y = true then 1 else 0 := gone_year y
theorem IsDate.inj {n y m d y' m' d' : Int} (h : IsDate n y m d) (k : IsDate n y' m' d') : y = y' ∧ m = m' ∧ d = d' := by
  obtain ⟨a0, a1, a2, a3, a4, a5, a6⟩ := h
  obtain ⟨b0, b1, b2, b3, b4, b5, b6⟩ := k
  have e1 := goneI_next y m a2
  have e2 := goneI_next y' m' b2
  have e3 := goneI_mono y (m + 1) 13 (by omega)
  have e4 := goneI_mono y' (m' + 1) 13 (by omega)
  have e5 := goneI_bd y m a2 (by omega)
  have e6 := goneI_bd y' m' b2 (by omega)
  have e7 := goneI_13 y
  have e8 := goneI_13 y'
  have e9 := ahead_step y
  have e10 := ahead_step y'
  have hy : y = y' := by
    rcases Int.lt_trichotomy y y' with hlt | he | hgt
    · have := ahead_mono (y + 1) y' (by omega); omega
    · exact he
    · have := ahead_mono (y' + 1) y (by omega); omega
  subst hy
  have hm : m = m' := by
    rcases Int.lt_trichotomy m m' with hlt | he | hgt
    · have := goneI_mono y (m + 1) m' (by omega); omega
    · exact he
    · have := goneI_mono y (m' + 1) m (by omega); omega
  subst hm
  exact ⟨rfl, rfl, by omega⟩

set_option maxHeartbeats 1000000 in
/-- sort.Search at a closure that only reads: the first place at which it says yes. -/
theorem search_q (g : Nat) (cb : Array Value) (n : Nat) (p : Nat → Bool) (w : World) (eg : ∀ args w, (callFunc g args).run Tryz.prog w = .ok (.enter g args) w) (hsz : n < 4611686018427387904)
    (hf : ∀ (m : Nat) (i : Nat), i < n → Calls Tryz.prog g (#[.int .i64 i] ++ cb) (w.drewN m) fun e w' => e = .returned (.bool (p i)) ∧ ∃ q, w' = (w.drewN m).drewN q)
    (hmono : ∀ a b, a ≤ b → b < n → p a = true → p b = true) :
    Calls Tryz.prog 84 #[.int .i64 n, .func (.func g) #[] cb] w fun e w' => (∃ k : Nat, e = .returned (.int .i64 k) ∧ k ≤ n ∧ (∀ t, t < k → p t = false) ∧ (∀ t, k ≤ t → t < n → p t = true)) ∧ ∃ q, w' = w.drewN q := by
  have HF : Hid _ := hf
  have M : Hid _ := hmono
  clear hf hmono
  go_enter Tryz.func84, Tryz.ntmps84
  go_wp2
  go_loopg [5, 6] n (fun kx s5 s6 wr => ∃ (lo hi q : Nat), s5 = .int .i64 lo ∧ s6 = .int .i64 hi ∧ lo ≤ hi ∧ hi ≤ n ∧ hi - lo ≤ kx ∧ wr = w.drewN q ∧
    Hid ((∀ t, t < lo → p t = false) ∧ (∀ t, hi ≤ t → t < n → p t = true)))
  case atStart => exact ⟨0, n, 0, rfl, rfl, Nat.zero_le _, Nat.le_refl _, by omega, rfl, (⟨fun t ht => absurd ht (Nat.not_lt_zero _), fun t h1 h2 => by omega⟩ : (∀ t, t < 0 → p t = false) ∧ (∀ t, n ≤ t → t < n → p t = true))⟩
  case round =>
    obtain ⟨lo, hi, q, rfl, rfl, hlh, hin, hg, rfl, I⟩ := hrel
    by_cases hlt : lo < hi
    · have hc := HF.out q ((lo + hi) / 2) (by omega)
      rw [show (((lo + hi) / 2 : Nat) : Int) = ((lo : Int) + (hi : Int)) / 2 by omega] at hc
      cases hp : p ((lo + hi) / 2) <;> rw [hp] at hc
      · have HP : Hid (p ((lo + hi) / 2) = false) := hp
        clear hp
        go_wp2_with fail
        refine hc.mono ?_
        rintro e w' ⟨rfl, nq, rfl⟩
        go_wp2
        go_roundg (hi - ((lo + hi) / 2 + 1))
        case measure => omega
        case rel =>
          have I2 : Hid ((∀ t, t < (lo + hi) / 2 + 1 → p t = false) ∧ (∀ t, hi ≤ t → t < n → p t = true)) := ⟨fun t ht => (by
            cases h : p t with
            | false => rfl
            | true => have := M.out t ((lo + hi) / 2) (by omega) (by omega) h; rw [HP.out] at this; cases this), I.out.2⟩
          exact ⟨(lo + hi) / 2 + 1, hi, q + nq, by rw [show ((lo : Int) + (hi : Int)) / 2 + 1 = (((lo + hi) / 2 + 1 : Nat) : Int) by omega], rfl, by omega, hin, Nat.le_refl _, by first | rfl | rw [World.drewN_drewN], I2⟩
      · have HP : Hid (p ((lo + hi) / 2) = true) := hp
        clear hp
        go_wp2_with fail
        refine hc.mono ?_
        rintro e w' ⟨rfl, nq, rfl⟩
        go_wp2
        go_roundg ((lo + hi) / 2 - lo)
        case measure => omega
        case rel =>
          have I2 : Hid ((∀ t, t < lo → p t = false) ∧ (∀ t, (lo + hi) / 2 ≤ t → t < n → p t = true)) := ⟨I.out.1, fun t ht htn => M.out ((lo + hi) / 2) t ht htn HP.out⟩
          exact ⟨lo, (lo + hi) / 2, q + nq, rfl, by rw [show ((lo : Int) + (hi : Int)) / 2 = (((lo + hi) / 2 : Nat) : Int) by omega], by omega, by omega, Nat.le_refl _, by first | rfl | rw [World.drewN_drewN], I2⟩
    · obtain rfl : hi = lo := by omega
      go_wp2
      go_ret
      exact ⟨⟨hi, rfl, hin, I.out.1, I.out.2⟩, q, rfl⟩

end Go.Proofs.YtkdejfedigiohaaGreatDoor
