/- The civil layer's functions: each comes to a plain function of whole numbers. The civil layer's functions, more: days, dates, minutes by the calendar. A field's functions, as plain functions of whole numbers and bits. The five fields of a spec: what they are told by, and what is wrong with them. The lex layer's functions: numbers, names, values, words. lex.Value at a text that begins with a digit. -/
import Derived.Test.YtkdejfedigiohaaGreatDoorPRx2
import Derived.Test.YtkdejfedigiohaaGreatDoorPRx3
import Derived.IntWalk
import Derived.Lib.Hide
import Derived.Deep.QuietTactic
import Derived.BigQuiet
import Derived.Deep.LoopGhost
import Derived.Deep.Draws
import Derived.StillTailTactics
import Derived.Deep.DeepFit
import Derived.Laws.BitsAllLaws
import Derived.LoopN
import Derived.Laws.EntriesVeiled
import Derived.Laws.RangeAny
/- The civil layer's functions: each comes to a plain function of whole numbers. -/
namespace Go.Proofs.YtkdejfedigiohaaGreatDoor
open Go.RowKit Go.Proofs.YtkdejfedigiohaaGreatDoorW.PrintWords Go.Proofs.YtkdejfedigiohaaGreatDoorW.PrintLast Go.Proofs.YtkdejfedigiohaaGreatDoorW.PrintMore
set_option linter.unusedVariables false
set_option linter.unusedSimpArgs false

def leapB (y : Int) : Bool := decide (y % 4 = 0) && (!decide (y % 100 = 0) || decide (y % 400 = 0))
def len12 (m : Int) : Int := if m = 2 then 28 else if m = 4 ∨ m = 6 ∨ m = 9 ∨ m = 11 then 30 else 31
def lenI (y m : Int) : Int := if m < 1 ∨ 12 < m then 0 else if m = 2 ∧ leapB y = true then 29 else len12 m

def arr12 : Value := .agg #[.int .i64 31, .int .i64 28, .int .i64 31, .int .i64 30, .int .i64 31, .int .i64 30, .int .i64 31, .int .i64 31, .int .i64 30, .int .i64 31, .int .i64 30, .int .i64 31]
theorem idx12_0 (w : World) : (Instr.index 77 arr12 (.int .i64 0)).run Tryz.prog w = .ok (.int .i64 31) w := by kernel_rfl
theorem idx12_1 (w : World) : (Instr.index 77 arr12 (.int .i64 1)).run Tryz.prog w = .ok (.int .i64 28) w := by kernel_rfl
theorem idx12_2 (w : World) : (Instr.index 77 arr12 (.int .i64 2)).run Tryz.prog w = .ok (.int .i64 31) w := by kernel_rfl
theorem idx12_3 (w : World) : (Instr.index 77 arr12 (.int .i64 3)).run Tryz.prog w = .ok (.int .i64 30) w := by kernel_rfl
theorem idx12_4 (w : World) : (Instr.index 77 arr12 (.int .i64 4)).run Tryz.prog w = .ok (.int .i64 31) w := by kernel_rfl
theorem idx12_5 (w : World) : (Instr.index 77 arr12 (.int .i64 5)).run Tryz.prog w = .ok (.int .i64 30) w := by kernel_rfl
theorem idx12_6 (w : World) : (Instr.index 77 arr12 (.int .i64 6)).run Tryz.prog w = .ok (.int .i64 31) w := by kernel_rfl
theorem idx12_7 (w : World) : (Instr.index 77 arr12 (.int .i64 7)).run Tryz.prog w = .ok (.int .i64 31) w := by kernel_rfl
theorem idx12_8 (w : World) : (Instr.index 77 arr12 (.int .i64 8)).run Tryz.prog w = .ok (.int .i64 30) w := by kernel_rfl
theorem idx12_9 (w : World) : (Instr.index 77 arr12 (.int .i64 9)).run Tryz.prog w = .ok (.int .i64 31) w := by kernel_rfl
theorem idx12_10 (w : World) : (Instr.index 77 arr12 (.int .i64 10)).run Tryz.prog w = .ok (.int .i64 30) w := by kernel_rfl
theorem idx12_11 (w : World) : (Instr.index 77 arr12 (.int .i64 11)).run Tryz.prog w = .ok (.int .i64 31) w := by kernel_rfl
theorem idx12 (m : Int) (h1 : 1 ≤ m) (h2 : m ≤ 12) (w : World) :
    (Instr.index 77 (.agg #[.int .i64 31, .int .i64 28, .int .i64 31, .int .i64 30, .int .i64 31, .int .i64 30, .int .i64 31, .int .i64 31, .int .i64 30, .int .i64 31, .int .i64 30, .int .i64 31]) (.int .i64 (m - 1))).run Tryz.prog w = .ok (.int .i64 (len12 m)) w := by
  have h : m = 1 ∨ m = 2 ∨ m = 3 ∨ m = 4 ∨ m = 5 ∨ m = 6 ∨ m = 7 ∨ m = 8 ∨ m = 9 ∨ m = 10 ∨ m = 11 ∨ m = 12 := by omega
  rcases h with rfl | rfl | rfl | rfl | rfl | rfl | rfl | rfl | rfl | rfl | rfl | rfl
  · exact idx12_0 w
  · exact idx12_1 w
  · exact idx12_2 w
  · exact idx12_3 w
  · exact idx12_4 w
  · exact idx12_5 w
  · exact idx12_6 w
  · exact idx12_7 w
  · exact idx12_8 w
  · exact idx12_9 w
  · exact idx12_10 w
  · exact idx12_11 w

theorem tm0 (y : Int) (n : Int) : (y.tmod n = 0) = (y % n = 0) := by
  rw [← Int.dvd_iff_tmod_eq_zero, ← Int.dvd_iff_emod_eq_zero]
theorem tm0b (y : Int) (n : Int) : (y.tmod n == 0) = decide (y % n = 0) := by
  rw [Bool.eq_iff_iff]; simp [tm0]
theorem tm0n (y : Int) (n : Int) : (y.tmod n != 0) = !decide (y % n = 0) := by
  rw [bne, tm0b]
theorem ret_bool {a b : Bool} (h : a = b) : Ending.returned (.bool a) = .returned (.bool b) := by rw [h]
theorem ret_int {k : IntKind} {a b : Int} (h : a = b) : Ending.returned (.int k a) = .returned (.int k b) := by rw [h]

theorem leap_q (y : Int) (w : World) :
    Calls Tryz.prog 54 #[.int .i64 y] w fun e w' => e = .returned (.bool (leapB y)) ∧ w = w' := by
  go_enter Tryz.func54, Tryz.ntmps54
  go_wp2
  all_goals (go_ret; refine ⟨ret_bool ?_, rfl⟩; unfold leapB; simp only [tm0b, tm0n, tm0] at *; simp [*])

theorem length_q (y m : Int) (w : World) :
    Calls Tryz.prog 22 #[.int .i64 y, .int .i64 m] w fun e w' => e = .returned (.int .i64 (lenI y m)) ∧ w = w' := by
  by_cases h1 : m < 1
  · go_enter Tryz.func22, Tryz.ntmps22
    go_wp2
    go_ret; exact ⟨ret_int (by unfold lenI; rw [if_pos (by omega)]), rfl⟩
  · by_cases h2 : 12 < m
    · go_enter Tryz.func22, Tryz.ntmps22
      go_wp2
      go_ret; exact ⟨ret_int (by unfold lenI; rw [if_pos (by omega)]), rfl⟩
    · have g1 : 1 ≤ m := by omega
      have g2 : m ≤ 12 := by omega
      clear h1 h2
      by_cases h3 : m = 2
      · subst h3
        cases hl : leapB y
        · have i1 := idx12_1
          unfold arr12 at i1
          go_enter Tryz.func22, Tryz.ntmps22
          go_wp2_with (go_at_call 54; refine (leap_q y _).mono ?_; rintro e w' ⟨rfl, rfl⟩)
          go_ret; exact ⟨ret_int (by unfold lenI len12; simp [hl]), rfl⟩
        · go_enter Tryz.func22, Tryz.ntmps22
          go_wp2_with (go_at_call 54; refine (leap_q y _).mono ?_; rintro e w' ⟨rfl, rfl⟩)
          go_ret; exact ⟨ret_int (by unfold lenI; simp [hl]), rfl⟩
      · have hb : (m == 2) = false := by simpa using h3
        have i1 := idx12 m (by omega) (by omega)
        go_enter Tryz.func22, Tryz.ntmps22
        go_wp2
        go_ret; exact ⟨ret_int (by unfold lenI; rw [if_neg (by omega), if_neg (by omega)]), rfl⟩

def leapsI (y : Int) : Int := y / 4 - y / 100 + y / 400
def aheadI (y : Int) : Int := 365 * (y - 1970) + leapsI (y - 1) - 477
def goneN (y : Int) : Nat → Int
  | 0 => 0
  | n + 1 => goneN y n + lenI y ((n : Int) + 1)
/-- How many days of a year there are ahead of a month. -/
def goneI (y m : Int) : Int := goneN y (m - 1).toNat

theorem lenI_bd (y m : Int) : 0 ≤ lenI y m ∧ lenI y m ≤ 31 := by
  unfold lenI len12; repeat' split <;> omega
theorem goneN_bd (y : Int) (n : Nat) : 0 ≤ goneN y n ∧ goneN y n ≤ 31 * n := by
  induction n with
  | zero => simp [goneN]
  | succ n ih => have := lenI_bd y ((n : Int) + 1); simp only [goneN]; omega

theorem tq (y n : Int) (h : 0 ≤ y) : y.tdiv n = y / n := Int.tdiv_eq_ediv_of_nonneg h
theorem leaps_q (y : Int) (h0 : 0 ≤ y) (h1 : y ≤ 100000) (w : World) :
    Calls Tryz.prog 119 #[.int .i64 y] w fun e w' => e = .returned (.int .i64 (leapsI y)) ∧ w = w' := by
  go_enter Tryz.func119, Tryz.ntmps119
  go_wp2
  have e : y / 4 - y / 100 + y / 400 = leapsI y := rfl
  go_ret; exact ⟨ret_int e, rfl⟩

theorem ahead_q (y : Int) (h0 : 1 ≤ y) (h1 : y ≤ 10000) (w : World) :
    Calls Tryz.prog 86 #[.int .i64 y] w fun e w' => e = .returned (.int .i64 (aheadI y)) ∧ w = w' := by
  go_enter Tryz.func86, Tryz.ntmps86
  go_wp2_with (go_at_call 119; refine (leaps_q _ (by omega) (by omega) _).mono ?_; rintro e w' ⟨rfl, rfl⟩)
  go_ret; exact ⟨ret_int (by unfold aheadI leapsI; unfold wrap64; omega), rfl⟩

theorem gone_q (y m : Int) (h1 : 1 ≤ m) (h2 : m ≤ 13) (w : World) :
    Calls Tryz.prog 88 #[.int .i64 y, .int .i64 m] w fun e w' => e = .returned (.int .i64 (goneI y m)) ∧ w = w' := by
  go_enter Tryz.func88, Tryz.ntmps88
  go_wp2
  go_loop [5, 6] (fun n i => ∃ k : Nat, (k : Int) + 1 ≤ m ∧ n = .int .i64 (goneN y k) ∧ i = .int .i64 ((k : Int) + 1)) (fun _ i => (13 - intOf i).toNat)
  case atStart => exact ⟨0, by omega, rfl, rfl⟩
  case round =>
    obtain ⟨k, hk, rfl, rfl⟩ := hrel
    have b1 := goneN_bd y k
    have b2 := lenI_bd y ((k : Int) + 1)
    by_cases hlt : (k : Int) + 1 < m
    · go_wp2_with (go_at_call 22; refine (length_q _ _ _).mono ?_; rintro e w' ⟨rfl, rfl⟩)
      go_round
      case rel => exact ⟨k + 1, by omega, by simp only [goneN], by simp⟩
      case measure => simp [intOf]; omega
    · go_wp2
      go_ret
      exact ⟨ret_int (by unfold goneI; rw [show (m - 1).toNat = k by omega]), rfl⟩

theorem leaps_step (y : Int) : leapsI y - leapsI (y - 1) = if leapB y = true then 1 else 0 := by
  unfold leapsI leapB
  by_cases h4 : y % 4 = 0 <;> by_cases h1 : y % 100 = 0 <;> by_cases h9 : y % 400 = 0 <;> simp [h4, h1, h9] <;> omega
theorem ahead_step (y : Int) : aheadI (y + 1) = aheadI y + 365 + if leapB y = true then 1 else 0 := by
  have := leaps_step y
  unfold aheadI
  rw [show y + 1 - 1 = y by omega]
  omega
theorem ahead_le (y : Int) (n : Nat) : aheadI y ≤ aheadI (y + n) := by
  induction n with
  | zero => simp
  | succ n ih => have := ahead_step (y + n); rw [show y + ((n + 1 : Nat) : Int) = y + n + 1 by omega]; split at this <;> omega
theorem ahead_mono (a b : Int) (h : a ≤ b) : aheadI a ≤ aheadI b := by
  have := ahead_le a (b - a).toNat
  rwa [show a + ((b - a).toNat : Int) = b by omega] at this
theorem gone_year (y : Int) : goneN y 12 = 365 + if leapB y = true then 1 else 0 := by
  simp only [goneN, lenI, len12]
  cases leapB y <;> simp
theorem goneN_le (y : Int) (a n : Nat) : goneN y a ≤ goneN y (a + n) := by
  induction n with
  | zero => exact Int.le_refl _
  | succ n ih => have := lenI_bd y (((a + n : Nat) : Int) + 1); rw [show a + (n + 1) = (a + n) + 1 by omega]; simp only [goneN]; omega
theorem goneN_mono (y : Int) (a b : Nat) (h : a ≤ b) : goneN y a ≤ goneN y b := by
  have := goneN_le y a (b - a); rwa [show a + (b - a) = b by omega] at this
theorem goneI_bd (y m : Int) (h1 : 1 ≤ m) (h2 : m ≤ 13) : 0 ≤ goneI y m ∧ goneI y m ≤ 366 := by
  have h := goneN_mono y (m - 1).toNat 12 (by omega)
  have g := gone_year y
  have b := goneN_bd y (m - 1).toNat
  unfold goneI
  split at g <;> omega

/-- A day's date: which day of which month of which year it is. -/
structure IsDate (n y m d : Int) : Prop where
  y0 : 1970 ≤ y
  y1 : y ≤ 2999
  m0 : 1 ≤ m
  m1 : m ≤ 12
  d0 : 1 ≤ d
  d1 : d ≤ lenI y m
  sum : aheadI y + goneI y m + d - 1 = n
theorem goneI_next (y m : Int) (h : 1 ≤ m) : goneI y (m + 1) = goneI y m + lenI y m := by
  unfold goneI
  rw [show (m + 1 - 1).toNat = (m - 1).toNat + 1 by omega]
  simp only [goneN]
  rw [show (((m - 1).toNat : Nat) : Int) + 1 = m by omega]
theorem goneI_mono (y a b : Int) (h1 : a ≤ b) : goneI y a ≤ goneI y b := goneN_mono y _ _ (by omega)
theorem goneI_13 (y : Int) : goneI y 13 = 365 + if leapB y = true then 1 else 0 := gone_year y
theorem IsDate.inj {n y m d y' m' d' : Int} (h : IsDate n y m d) (k : IsDate n y' m' d') : y = y' ∧ m = m' ∧ d = d' := by
  obtain ⟨a0, a1, a2, a3, a4, a5, a6⟩ := h
  obtain ⟨b0, b1, b2, b3, b4, b5, b6⟩ := k
  have e1 := goneI_next y m a2
  have e2 := goneI_next y' m' b2
  have e3 := goneI_mono y (m + 1) 13 (by omega)
  have e4 := goneI_mono y' (m' + 1) 13 (by omega)
  have e5 := goneI_bd y m a2 (by omega)
  have e6 := goneI_bd y' m' b2 (by omega)
  have e7 := goneI_13 y
  have e8 := goneI_13 y'
  have e9 := ahead_step y
  have e10 := ahead_step y'
  have hy : y = y' := by
    rcases Int.lt_trichotomy y y' with hlt | he | hgt
    · have := ahead_mono (y + 1) y' (by omega); omega
    · exact he
    · have := ahead_mono (y' + 1) y (by omega); omega
  subst hy
  have hm : m = m' := by
    rcases Int.lt_trichotomy m m' with hlt | he | hgt
    · have := goneI_mono y (m + 1) m' (by omega); omega
    · exact he
    · have := goneI_mono y (m' + 1) m (by omega); omega
  subst hm
  exact ⟨rfl, rfl, by omega⟩

set_option maxHeartbeats 1000000 in
/-- sort.Search at a closure that only reads: the first place at which it says yes. -/
theorem search_q (g : Nat) (cb : Array Value) (n : Nat) (p : Nat → Bool) (w : World) (eg : ∀ args w, (callFunc g args).run Tryz.prog w = .ok (.enter g args) w) (hsz : n < 4611686018427387904)
    (hf : ∀ (m : Nat) (i : Nat), i < n → Calls Tryz.prog g (#[.int .i64 i] ++ cb) (w.drewN m) fun e w' => e = .returned (.bool (p i)) ∧ ∃ q, w' = (w.drewN m).drewN q)
    (hmono : ∀ a b, a ≤ b → b < n → p a = true → p b = true) :
    Calls Tryz.prog 84 #[.int .i64 n, .func (.func g) #[] cb] w fun e w' => (∃ k : Nat, e = .returned (.int .i64 k) ∧ k ≤ n ∧ (∀ t, t < k → p t = false) ∧ (∀ t, k ≤ t → t < n → p t = true)) ∧ ∃ q, w' = w.drewN q := by
  have HF : Hid _ := hf
  have M : Hid _ := hmono
  clear hf hmono
  go_enter Tryz.func84, Tryz.ntmps84
  go_wp2
  go_loopg [5, 6] n (fun kx s5 s6 wr => ∃ (lo hi q : Nat), s5 = .int .i64 lo ∧ s6 = .int .i64 hi ∧ lo ≤ hi ∧ hi ≤ n ∧ hi - lo ≤ kx ∧ wr = w.drewN q ∧
    Hid ((∀ t, t < lo → p t = false) ∧ (∀ t, hi ≤ t → t < n → p t = true)))
  case atStart => exact ⟨0, n, 0, rfl, rfl, Nat.zero_le _, Nat.le_refl _, by omega, rfl, (⟨fun t ht => absurd ht (Nat.not_lt_zero _), fun t h1 h2 => by omega⟩ : (∀ t, t < 0 → p t = false) ∧ (∀ t, n ≤ t → t < n → p t = true))⟩
  case round =>
    obtain ⟨lo, hi, q, rfl, rfl, hlh, hin, hg, rfl, I⟩ := hrel
    by_cases hlt : lo < hi
    · have hc := HF.out q ((lo + hi) / 2) (by omega)
      rw [show (((lo + hi) / 2 : Nat) : Int) = ((lo : Int) + (hi : Int)) / 2 by omega] at hc
      cases hp : p ((lo + hi) / 2) <;> rw [hp] at hc
      · have HP : Hid (p ((lo + hi) / 2) = false) := hp
        clear hp
        go_wp2_with fail
        refine hc.mono ?_
        rintro e w' ⟨rfl, nq, rfl⟩
        go_wp2
        go_roundg (hi - ((lo + hi) / 2 + 1))
        case measure => omega
        case rel =>
          have I2 : Hid ((∀ t, t < (lo + hi) / 2 + 1 → p t = false) ∧ (∀ t, hi ≤ t → t < n → p t = true)) := ⟨fun t ht => (by
            cases h : p t with
            | false => rfl
            | true => have := M.out t ((lo + hi) / 2) (by omega) (by omega) h; rw [HP.out] at this; cases this), I.out.2⟩
          exact ⟨(lo + hi) / 2 + 1, hi, q + nq, by rw [show ((lo : Int) + (hi : Int)) / 2 + 1 = (((lo + hi) / 2 + 1 : Nat) : Int) by omega], rfl, by omega, hin, Nat.le_refl _, by first | rfl | rw [World.drewN_drewN], I2⟩
      · have HP : Hid (p ((lo + hi) / 2) = true) := hp
        clear hp
        go_wp2_with fail
        refine hc.mono ?_
        rintro e w' ⟨rfl, nq, rfl⟩
        go_wp2
        go_roundg ((lo + hi) / 2 - lo)
        case measure => omega
        case rel =>
          have I2 : Hid ((∀ t, t < lo → p t = false) ∧ (∀ t, (lo + hi) / 2 ≤ t → t < n → p t = true)) := ⟨I.out.1, fun t ht htn => M.out ((lo + hi) / 2) t ht htn HP.out⟩
          exact ⟨lo, (lo + hi) / 2, q + nq, rfl, by rw [show ((lo : Int) + (hi : Int)) / 2 = (((lo + hi) / 2 : Nat) : Int) by omega], by omega, by omega, Nat.le_refl _, by first | rfl | rw [World.drewN_drewN], I2⟩
    · obtain rfl : hi = lo := by omega
      go_wp2
      go_ret
      exact ⟨⟨hi, rfl, hin, I.out.1, I.out.2⟩, q, rfl⟩

end Go.Proofs.YtkdejfedigiohaaGreatDoor

/- The civil layer's functions, more: days, dates, minutes by the calendar. -/
namespace Go.Proofs.YtkdejfedigiohaaGreatDoor
open Go.RowKit Go.Proofs.YtkdejfedigiohaaGreatDoorW.PrintWords Go.Proofs.YtkdejfedigiohaaGreatDoorW.PrintLast Go.Proofs.YtkdejfedigiohaaGreatDoorW.PrintMore
set_option linter.unusedVariables false
set_option linter.unusedSimpArgs false

theorem flip {P : Program} {f : FuncId} {args : Array Value} {w : World} {v : Value} (h : Calls P f args w fun e w' => e = .returned v ∧ w = w') :
    Calls P f args w fun e w' => e = .returned v ∧ w' = w := h.mono fun _ _ ⟨a, b⟩ => ⟨a, b.symm⟩

theorem aheadI_bd (y : Int) (h0 : 1970 ≤ y) (h1 : y ≤ 3000) : 0 ≤ aheadI y ∧ aheadI y ≤ 376200 := by
  have a := ahead_mono 1970 y h0
  have b := ahead_mono y 3000 h1
  have c : aheadI 1970 = 0 := by decide
  have d : aheadI 3000 = 376200 := by decide
  omega

theorem date1_q (b : Nat) (day : Int) (i : Nat) (W : World) (hi : i < 1029) (hc : W.cell? ⟨b, 0, none⟩ = some (.int .i64 day)) :
    Calls Tryz.prog 85 #[.int .i64 i, .pointer (some ⟨b, 0, none⟩)] W fun e w' => e = .returned (.bool (decide (day < aheadI ((i : Int) + 1971)))) ∧ ∃ q, w' = W.drewN q := by
  go_enter Tryz.func85, Tryz.ntmps85
  go_wp2
  go_quiet ((go_at_call 86; exact Calls.quiet_of_same (flip (ahead_q _ (by omega) (by omega) _))))
  go_wp2
  go_ret
  exact ⟨ret_bool (by rw [show (1970 : Int) + (i : Int) + 1 = (i : Int) + 1971 by omega]), nq, rfl⟩

theorem date2_q (by_ bd : Nat) (y day : Int) (i : Nat) (W : World) (hi : i < 11) (hy : W.cell? ⟨by_, 0, none⟩ = some (.int .i64 y)) (hc : W.cell? ⟨bd, 0, none⟩ = some (.int .i64 day)) :
    Calls Tryz.prog 87 #[.int .i64 i, .pointer (some ⟨by_, 0, none⟩), .pointer (some ⟨bd, 0, none⟩)] W fun e w' => e = .returned (.bool (decide (day < goneI y ((i : Int) + 2)))) ∧ ∃ q, w' = W.drewN q := by
  go_enter Tryz.func87, Tryz.ntmps87
  go_wp2
  go_quiet ((go_at_call 88; exact Calls.quiet_of_same (flip (gone_q _ _ (by omega) (by omega) _))))
  go_wp2
  go_ret
  exact ⟨rfl, nq, rfl⟩

theorem day_ok (y m d : Int) (w : World) (h0 : 1970 ≤ y) (h1 : y ≤ 2999) (h2 : 1 ≤ d) (h3 : d ≤ lenI y m) :
    Calls Tryz.prog 52 #[.int .i64 y, .int .i64 m, .int .i64 d] w fun e w' => e = .returned (.tuple #[.int .i64 (aheadI y + goneI y m + d - 1), .int .i64 0]) ∧ w = w' := by
  have hm : 1 ≤ m ∧ m ≤ 12 := by
    unfold lenI at h3; split at h3 <;> omega
  have b1 := aheadI_bd y h0 (by omega)
  have b2 := goneI_bd y m hm.1 (by omega)
  have b3 := lenI_bd y m
  go_enter Tryz.func52, Tryz.ntmps52
  go_wp2_with (first
    | (go_at_call 22; refine (length_q _ _ _).mono ?_; rintro e w' ⟨rfl, rfl⟩)
    | (go_at_call 86; refine (ahead_q _ (by omega) (by omega) _).mono ?_; rintro e w' ⟨rfl, rfl⟩)
    | (go_at_call 88; refine (gone_q _ _ (by omega) (by omega) _).mono ?_; rintro e w' ⟨rfl, rfl⟩))
  go_ret2
  exact ⟨rfl, rfl⟩

theorem day_no (y m d : Int) (w : World) (h : ¬ (1970 ≤ y ∧ y ≤ 2999 ∧ 1 ≤ d ∧ d ≤ lenI y m)) :
    Calls Tryz.prog 52 #[.int .i64 y, .int .i64 m, .int .i64 d] w fun e w' => e = .returned (.tuple #[.int .i64 0, .int .i64 1]) ∧ w = w' := by
  by_cases h0 : y < 1970
  · clear h
    go_enter Tryz.func52, Tryz.ntmps52
    go_wp2
    go_ret2
    exact ⟨rfl, rfl⟩
  · by_cases h1 : 2999 < y
    · clear h
      go_enter Tryz.func52, Tryz.ntmps52
      go_wp2
      go_ret2
      exact ⟨rfl, rfl⟩
    · by_cases h2 : d < 1
      · clear h
        go_enter Tryz.func52, Tryz.ntmps52
        go_wp2
        go_ret2
        exact ⟨rfl, rfl⟩
      · have h3 : lenI y m < d := by omega
        clear h
        go_enter Tryz.func52, Tryz.ntmps52
        go_wp2_with (first
          | (go_at_call 22; refine (length_q _ _ _).mono ?_; rintro e w' ⟨rfl, rfl⟩))
        go_ret2
        exact ⟨rfl, rfl⟩

theorem date_no (n : Int) (w : World) (h : n < 0 ∨ 376199 < n) :
    Calls Tryz.prog 48 #[.int .i64 n] w fun e w' => e = .returned (.tuple #[.int .i64 0, .int .i64 0, .int .i64 0, .int .i64 1]) ∧ Below w.heap.size w w' := by
  rcases h with h | h
  · go_enter Tryz.func48, Tryz.ntmps48
    go_wp2
    exact bodyPost_ret (v := .tuple #[.int .i64 0, .int .i64 0, .int .i64 0, .int .i64 1]) (by simp [results, Tryz.results48, go_sem]) rfl ⟨rfl, (Below.refl _ _).alloc (Nat.le_refl _) _⟩
  · have h' : ¬ n < 0 := by omega
    go_enter Tryz.func48, Tryz.ntmps48
    go_wp2
    exact bodyPost_ret (v := .tuple #[.int .i64 0, .int .i64 0, .int .i64 0, .int .i64 1]) (by simp [results, Tryz.results48, go_sem]) rfl ⟨rfl, (Below.refl _ _).alloc (Nat.le_refl _) _⟩

theorem eg_date1 (args : Array Value) (w : World) : (callFunc 85 args).run Tryz.prog w = .ok (.enter 85 args) w := by kernel_rfl
theorem eg_date2 (args : Array Value) (w : World) : (callFunc 87 args).run Tryz.prog w = .ok (.enter 87 args) w := by kernel_rfl

theorem _root_.Go.RowKit.Below.drewN {B : Nat} {a w : World} (h : Below B a w) (n : Nat) : Below B a (w.drewN n) := ⟨h.os, h.tape, h.output, h.size, h.block⟩

def DateSaid (n : Int) (w : World) (e : Ending) (w' : World) : Prop :=
  ∃ y m d : Int, IsDate n y m d ∧ e = .returned (.tuple #[.int .i64 y, .int .i64 m, .int .i64 d, .int .i64 0]) ∧ Below w.heap.size w w'

set_option maxRecDepth 100000 in
set_option maxHeartbeats 1000000 in
theorem date_ok (n : Int) (w : World) (h0 : 0 ≤ n) (h1 : n ≤ 376199) :
    Calls Tryz.prog 48 #[.int .i64 n] w (DateSaid n w) := by
  have H1 := search_q 85 #[.pointer (some ⟨w.heap.size, 0, none⟩)] 1029 (fun i => decide (n < aheadI ((i : Int) + 1971))) (w.alloc (.cells #[.int .i64 n] 3)) eg_date1 (by omega)
    (fun m i hi => date1_q _ n i _ hi (by simp)) (fun a b hab _ h => by have := ahead_mono ((a : Int) + 1971) ((b : Int) + 1971) (by omega); simp at h ⊢; omega)
  have H1' := Lib.hid H1
  clear H1
  go_enter Tryz.func48, Tryz.ntmps48
  go_wp2_with fail
  refine H1'.out.mono ?_
  rintro e w' ⟨⟨k, rfl, hk, hf, ht⟩, q, rfl⟩
  have ha := aheadI_bd (1970 + (k : Int)) (by omega) (by omega)
  have hlo : aheadI (1970 + (k : Int)) ≤ n := by
    by_cases hk0 : k = 0
    · subst hk0; have : aheadI (1970 + ((0 : Nat) : Int)) = 0 := by decide
      omega
    · have := hf (k - 1) (by omega)
      rw [show (((k - 1 : Nat) : Int) + 1971) = 1970 + (k : Int) by omega] at this
      simp at this; omega
  have hhi : n < aheadI (1970 + (k : Int) + 1) := by
    by_cases hk9 : k = 1029
    · subst hk9; have : aheadI (1970 + ((1029 : Nat) : Int) + 1) = 376200 := by decide
      omega
    · have := ht k (by omega) (by omega)
      rw [show ((k : Int) + 1971) = 1970 + (k : Int) + 1 by omega] at this
      simpa using this
  have hst := ahead_step (1970 + (k : Int))
  have hlen : n - aheadI (1970 + (k : Int)) < 365 + if leapB (1970 + (k : Int)) = true then 1 else 0 := by omega
  have hlen := Lib.hid hlen
  clear hf ht hst hhi
  go_wp2
  generalize hW : ((w.alloc (.cells #[.int .i64 n] 3)).drewN q).alloc (.cells #[.int .i64 (1970 + (k : Int))] 3) = W
  have c0 : W.cell? ⟨w.heap.size, 0, none⟩ = some (.int .i64 n) := by subst hW; go_simp
  have c1 : W.cell? ⟨w.heap.size + 1, 0, none⟩ = some (.int .i64 (1970 + (k : Int))) := by subst hW; go_simp
  have f0 : W.frozen? ⟨w.heap.size, 0, none⟩ = false := by subst hW; go_simp
  have f1 : W.frozen? ⟨w.heap.size + 1, 0, none⟩ = false := by subst hW; go_simp
  have hb : Below w.heap.size w W := by subst hW; exact (((Below.refl _ _).alloc (Nat.le_refl _) _).drewN q).alloc (by simp) _
  clear hW
  refine wp_region_still_tail 4 (by kernel_rfl) (by kernel_rfl) ?_
  simp only [List.take_succ_cons, List.take_zero, List.drop_succ_cons, List.drop_zero]
  have c0 : (W.drew).cell? ⟨w.heap.size, 0, none⟩ = some (.int .i64 n) := c0
  have c1 : (W.drew).cell? ⟨w.heap.size + 1, 0, none⟩ = some (.int .i64 (1970 + (k : Int))) := c1
  have f0 : (W.drew).frozen? ⟨w.heap.size, 0, none⟩ = false := f0
  have f1 : (W.drew).frozen? ⟨w.heap.size + 1, 0, none⟩ = false := f1
  change wpStill _ _ W.drew _ _ _
  generalize W.drew = W2 at *
  generalize hy : 1970 + (k : Int) = y at *
  still_step
  still_step
  still_call (flip (ahead_q _ (by omega) (by omega) _))
  still_step
  refine wpStill_nil ?_
  go_wp2_with fail
  generalize hW : (W.setCell ⟨w.heap.size, 0, none⟩ (.int .i64 (n - aheadI y))).drew = W3
  have d0 : W3.cell? ⟨w.heap.size, 0, none⟩ = some (.int .i64 (n - aheadI y)) := by subst hW; go_simp
  have d1 : W3.cell? ⟨w.heap.size + 1, 0, none⟩ = some (.int .i64 y) := by subst hW; go_simp
  have hb3 : Below w.heap.size w W3 := by subst hW; exact Below.drew (Below.setCell hb (Nat.le_refl _) _)
  clear hW
  have H2 := search_q 87 #[.pointer (some ⟨w.heap.size + 1, 0, none⟩), .pointer (some ⟨w.heap.size, 0, none⟩)] 11 (fun i => decide (n - aheadI y < goneI y ((i : Int) + 2))) W3 eg_date2 (by omega)
    (fun m i hi => date2_q _ _ y (n - aheadI y) i _ hi d1 d0) (fun a b hab _ h => by have := goneI_mono y ((a : Int) + 2) ((b : Int) + 2) (by omega); simp at h ⊢; omega)
  refine H2.mono ?_
  clear H2
  rintro e w' ⟨⟨j, rfl, hj, hf, ht⟩, q3, rfl⟩
  have hb3 := hb3.drewN q3
  have d0 : (W3.drewN q3).cell? ⟨w.heap.size, 0, none⟩ = some (.int .i64 (n - aheadI y)) := d0
  have d1 : (W3.drewN q3).cell? ⟨w.heap.size + 1, 0, none⟩ = some (.int .i64 y) := d1
  generalize W3.drewN q3 = W4 at *
  have g13 := goneI_13 y
  have hL := hlen.out
  have hlo2 : goneI y (1 + (j : Int)) ≤ n - aheadI y := by
    by_cases hj0 : j = 0
    · subst hj0; have : goneI y (1 + ((0 : Nat) : Int)) = 0 := rfl
      omega
    · have := hf (j - 1) (by omega)
      rw [show (((j - 1 : Nat) : Int) + 2) = 1 + (j : Int) by omega] at this
      simp at this; omega
  have hhi2 : n - aheadI y < goneI y (1 + (j : Int) + 1) := by
    by_cases hj9 : j = 11
    · subst hj9
      rw [show (1 + ((11 : Nat) : Int) + 1) = 13 from rfl, g13]
      exact hL
    · have := ht j (by omega) (by omega)
      rw [show ((j : Int) + 2) = 1 + (j : Int) + 1 by omega] at this
      simpa using this
  rw [goneI_next y (1 + (j : Int)) (by omega)] at hhi2
  have gb := goneI_bd y (1 + (j : Int)) (by omega) (by omega)
  have hD := Lib.hid (show IsDate n y (1 + (j : Int)) (n - aheadI y - goneI y (1 + (j : Int)) + 1) from ⟨by omega, by omega, by omega, by omega, by omega, by omega, by omega⟩)
  clear g13 hL hf ht hhi2 hy hlen H1'
  go_wp2
  go_quiet ((go_at_call 88; exact Calls.quiet_of_same (flip (gone_q _ _ (by omega) (by omega) _))))
  go_wp2
  exact bodyPost_ret (v := .tuple #[.int .i64 y, .int .i64 (1 + (j : Int)), .int .i64 (n - aheadI y - goneI y (1 + (j : Int)) + 1), .int .i64 0]) (by simp [results, Tryz.results48, go_sem]) rfl ⟨_, _, _, hD.out, rfl, hb3.drewN _⟩

def weekI (n : Int) : Int := (n + 4) % 7

theorem week_q (n : Int) (w : World) (h0 : 0 ≤ n) (h1 : n ≤ 376199) :
    Calls Tryz.prog 49 #[.int .i64 n] w fun e w' => e = .returned (.tuple #[.int .i64 (weekI n), .int .i64 0]) ∧ w = w' := by
  go_enter Tryz.func49, Tryz.ntmps49
  go_wp2
  go_ret2
  exact ⟨rfl, rfl⟩

/-- A minute, by the calendar. -/
def OfSaid (t : Int) (w : World) (e : Ending) (w' : World) : Prop :=
  ∃ y m d : Int, IsDate (t / 1440) y m d ∧ e = .returned (.tuple #[.agg #[.int .i64 y, .int .i64 m, .int .i64 d, .int .i64 (t / 60 % 24), .int .i64 (t % 60), .int .i64 (weekI (t / 1440))], .int .i64 0]) ∧ Below w.heap.size w w'

theorem bcell {W w1 : World} (hb : Below W.heap.size W w1) : (∀ b o, b < W.heap.size → w1.cell? ⟨b, o, none⟩ = W.cell? ⟨b, o, none⟩) ∧ (∀ b o, b < W.heap.size → w1.frozen? ⟨b, o, none⟩ = W.frozen? ⟨b, o, none⟩) :=
  ⟨fun b o h => hb.cell (p := ⟨b, o, none⟩) h, fun b o h => hb.frozen (p := ⟨b, o, none⟩) h⟩

theorem of_no (t : Int) (w : World) (h : t < 0 ∨ 541727999 < t) :
    Calls Tryz.prog 19 #[.int .i64 t] w fun e w' => e = .returned (.tuple #[.agg #[.int .i64 0, .int .i64 0, .int .i64 0, .int .i64 0, .int .i64 0, .int .i64 0], .int .i64 1]) ∧ Below w.heap.size w w' := by
  rcases h with h | h
  · go_enter Tryz.func19, Tryz.ntmps19
    go_wp2
    exact bodyPost_ret (v := .tuple #[.agg #[.int .i64 0, .int .i64 0, .int .i64 0, .int .i64 0, .int .i64 0, .int .i64 0], .int .i64 1]) (by simp [results, Tryz.results19, go_sem]) rfl ⟨rfl, (Below.refl _ _).alloc (Nat.le_refl _) _⟩
  · have h' : ¬ t < 0 := by omega
    go_enter Tryz.func19, Tryz.ntmps19
    go_wp2
    exact bodyPost_ret (v := .tuple #[.agg #[.int .i64 0, .int .i64 0, .int .i64 0, .int .i64 0, .int .i64 0, .int .i64 0], .int .i64 1]) (by simp [results, Tryz.results19, go_sem]) rfl ⟨rfl, (Below.refl _ _).alloc (Nat.le_refl _) _⟩

set_option maxRecDepth 100000 in
set_option maxHeartbeats 1000000 in
theorem of_ok (t : Int) (w : World) (h0 : 0 ≤ t) (h1 : t ≤ 541727999) :
    Calls Tryz.prog 19 #[.int .i64 t] w (OfSaid t w) := by
  go_enter Tryz.func19, Tryz.ntmps19
  go_wp2_with fail
  refine (date_ok (t / 1440) _ (by omega) (by omega)).mono ?_
  rintro e w1 ⟨y, m, d, hD, rfl, hb⟩
  have hD := Lib.hid hD
  have hb0 : Below w.heap.size w w1 := ((Below.refl _ _).alloc (Nat.le_refl _) _).trans (hb.mono (by simp))
  obtain ⟨hc, hf⟩ := bcell hb
  have hz : w.heap.size < w1.heap.size := by have := hb.size; simp at this; omega
  go_wp2_with fail
  refine (week_q _ _ (by omega) (by omega)).mono ?_
  rintro e w' ⟨rfl, rfl⟩
  go_wp2
  refine bodyPost_ret (v := .tuple #[.agg #[.int .i64 y, .int .i64 m, .int .i64 d, .int .i64 (t / 60 % 24), .int .i64 (t % 60), .int .i64 (weekI (t / 1440))], .int .i64 0]) (by simp [results, Tryz.results19, go_sem, hc, hz]) rfl ⟨y, m, d, hD.out, rfl, ?_⟩
  (repeat' (first | (with_reducible assumption) | (with_reducible refine Below.setCell ?_ ?_ _) | (with_reducible refine Below.alloc ?_ ?_ _) | (with_reducible refine Below.drew ?_) | (with_reducible refine Below.drewN ?_ _) | (with_reducible exact Below.refl _ _) | (with_reducible exact Nat.le_refl _) | omega | (dsimp only; omega) | (simp; done) | (simp; omega)))

end Go.Proofs.YtkdejfedigiohaaGreatDoor

/- A field's functions, as plain functions of whole numbers and bits. -/
namespace Go.Proofs.YtkdejfedigiohaaGreatDoor
open Go.RowKit Go.Proofs.YtkdejfedigiohaaGreatDoorW.PrintWords Go.Proofs.YtkdejfedigiohaaGreatDoorW.PrintLast Go.Proofs.YtkdejfedigiohaaGreatDoorW.PrintMore
set_option linter.unusedVariables false
set_option linter.unusedSimpArgs false

open Go.Proofs.YtkdejfedigiohaaGreatDoor.PR

/-- Is v a value of the bits? -/
def hasB (b v : Int) : Bool := decide (0 ≤ v) && (decide (v < 64) && b.toNat.testBit v.toNat)
/-- The bits of all values of a kind. -/
def allB (kind : Int) : Int := if kind = 0 then 1152921504606846975 else if kind = 1 then 16777215 else if kind = 2 then 4294967294 else if kind = 3 then 8190 else 127
def loI (kind : Int) : Int := if kind = 2 ∨ kind = 3 then 1 else 0
def hiI (kind : Int) : Int := if kind = 0 then 59 else if kind = 1 then 23 else if kind = 2 then 31 else if kind = 3 then 12 else 6
/-- What is wrong with a field of a kind. -/
def chkI (b : Int) (s : Bool) (kind : Int) : Int :=
  if kind < 0 ∨ 4 < kind then 7 else if b = 0 then 2 else if b.toNat &&& (18446744073709551615 - (allB kind).toNat) ≠ 0 then 2 else if s = true ∧ b ≠ allB kind then 2 else 0

def U64 (b : Int) : Prop := 0 ≤ b ∧ b < 18446744073709551616
theorem u64_wf {b : Int} (h : (Lit.int .u64 b).wf = true) : U64 b := by
  simp only [Lit.wf, Bool.and_eq_true, decide_eq_true_eq] at h
  have e1 : IntKind.u64.min = 0 := rfl
  have e2 : IntKind.u64.max = 18446744073709551615 := rfl
  rw [e1, e2] at h
  exact ⟨h.1, by omega⟩

theorem wrap_u64 (n : Int) (h0 : 0 ≤ n) (h1 : n < 18446744073709551616) : IntKind.u64.wrap n = n := by
  have e : IntKind.u64.wrap n = n % 18446744073709551616 := by simp [IntKind.wrap, IntKind.bits, IntKind.signed]
  rw [e]; omega
theorem has_f (b : Int) (s : Bool) (v : Int) (hb : U64 b) : field_Has.f b s v = some (hasB b v) := by
  unfold field_Has.f hasB
  by_cases h0 : 0 ≤ v
  · by_cases h1 : v < 64
    · rw [if_pos h0, if_pos h1, wrap_u64 v h0 (by omega), if_pos h0]
      obtain ⟨n, rfl⟩ := Int.eq_ofNat_of_zero_le h0
      obtain ⟨B, rfl⟩ := Int.eq_ofNat_of_zero_le hb.1
      have hn : n < 64 := by omega
      have hB : B < 18446744073709551616 := by have := hb.2; omega
      have e1 : shr .u64 (B : Int) (n : Int) = ((B / 2 ^ n : Nat) : Int) := by
        unfold shr
        rw [show min ((n : Int)).toNat IntKind.u64.bits = n by rw [show IntKind.u64.bits = 64 from rfl, Int.toNat_natCast]; omega]
        norm_cast
      rw [e1, show (1 : Int) = ((1 : Nat) : Int) from rfl, u64_and_nat _ _ (Nat.lt_of_le_of_lt (Nat.div_le_self _ _) hB) (by decide)]
      have hx : ∀ x : Nat, (((x % 2 : Nat) : Int) == ((1 : Nat) : Int)) = decide (x % 2 = 1) := by
        intro x; rw [Bool.eq_iff_iff]; simp; omega
      simp only [Int.toNat_natCast, Nat.testBit_eq_decide_div_mod_eq, Nat.and_one_is_mod, hx]
      simp [h1]
    · rw [if_pos h0, if_neg h1]; simp [h1]
  · rw [if_neg h0]; simp [h0]

theorem has_any (b : Int) (s : Bool) (v : Int) (w : World) (hb : U64 b) :
    Calls Tryz.prog 21 #[.agg #[.int .u64 b, .bool s], .int .i64 v] w fun e w' => e = .returned (.bool (hasB b v)) ∧ Below w.heap.size w w' :=
  field_Has.calls b s v _ w (has_f b s v hb)

theorem chk_shape (b M : Int) (s : Bool) (hb : U64 b) (h0 : 0 ≤ M) (h1 : M < 18446744073709551616) :
    (if b = 0 then some 2 else if Go.bits .andNot .u64 b M = 0 then (if s = true then (if b = M then some 0 else some 2) else some 0) else some (2 : Int)) =
      some (if b = 0 then 2 else if b.toNat &&& (18446744073709551615 - M.toNat) ≠ 0 then 2 else if s = true ∧ b ≠ M then 2 else 0) := by
  rw [u64_andNot b M hb.1 hb.2 h0 h1]
  by_cases c0 : b = 0
  · rw [if_pos c0, if_pos c0]
  · rw [if_neg c0, if_neg c0]
    by_cases c1 : b.toNat &&& (18446744073709551615 - M.toNat) = 0
    · simp only [c1]
      cases s <;> by_cases c3 : b = M <;> simp [c3]
    · have c2 : ¬ ((b.toNat &&& (18446744073709551615 - M.toNat) : Nat) : Int) = 0 := by intro h; exact c1 (by exact_mod_cast h)
      rw [if_neg c2, if_pos c1]
theorem check_f (b : Int) (s : Bool) (kind : Int) (hb : U64 b) : field_Check.f b s kind = some (chkI b s kind) := by
  have e0 : field_every.f 0 59 = some 1152921504606846975 := by kernel_rfl
  have e1 : field_every.f 0 23 = some 16777215 := by kernel_rfl
  have e2 : field_every.f 1 31 = some 4294967294 := by kernel_rfl
  have e3 : field_every.f 1 12 = some 8190 := by kernel_rfl
  have e4 : field_every.f 0 6 = some 127 := by kernel_rfl
  by_cases hk : kind < 0 ∨ 4 < kind
  · have a0 : kind ≠ 0 := by omega
    have a1 : kind ≠ 1 := by omega
    have a2 : kind ≠ 2 := by omega
    have a3 : kind ≠ 3 := by omega
    have a4 : kind ≠ 4 := by omega
    simp [field_Check.f, field_limits.f, lex_Limits.f, chkI, hk, a0, a1, a2, a3, a4]
  · have h5 : kind = 0 ∨ kind = 1 ∨ kind = 2 ∨ kind = 3 ∨ kind = 4 := by omega
    unfold chkI
    rw [if_neg hk]
    rcases h5 with rfl | rfl | rfl | rfl | rfl
    · rw [← chk_shape b (allB 0) s hb (by decide) (by decide)]; simp [field_Check.f, field_limits.f, lex_Limits.f, e0, allB]
    · rw [← chk_shape b (allB 1) s hb (by decide) (by decide)]; simp [field_Check.f, field_limits.f, lex_Limits.f, e1, allB]
    · rw [← chk_shape b (allB 2) s hb (by decide) (by decide)]; simp [field_Check.f, field_limits.f, lex_Limits.f, e2, allB]
    · rw [← chk_shape b (allB 3) s hb (by decide) (by decide)]; simp [field_Check.f, field_limits.f, lex_Limits.f, e3, allB]
    · rw [← chk_shape b (allB 4) s hb (by decide) (by decide)]; simp [field_Check.f, field_limits.f, lex_Limits.f, e4, allB]

theorem check_any (b : Int) (s : Bool) (kind : Int) (w : World) (hb : U64 b) :
    Calls Tryz.prog 32 #[.agg #[.int .u64 b, .bool s], .int .i64 kind] w fun e w' => e = .returned (.int .i64 (chkI b s kind)) ∧ Below w.heap.size w w' :=
  field_Check.calls b s kind _ w (check_f b s kind hb)

end Go.Proofs.YtkdejfedigiohaaGreatDoor

/- The five fields of a spec: what they are told by, and what is wrong with them. -/
namespace Go.Proofs.YtkdejfedigiohaaGreatDoor
open Go.RowKit Go.Proofs.YtkdejfedigiohaaGreatDoorW.PrintWords Go.Proofs.YtkdejfedigiohaaGreatDoorW.PrintLast Go.Proofs.YtkdejfedigiohaaGreatDoorW.PrintMore
set_option linter.unusedVariables false
set_option linter.unusedSimpArgs false


structure Fd where
  b : Int
  s : Bool
structure Sp where
  m : Fd
  h : Fd
  d : Fd
  n : Fd
  w : Fd
/-- All five fields' bits are in range. -/
structure Sp.Ok (x : Sp) : Prop where
  m : U64 x.m.b
  h : U64 x.h.b
  d : U64 x.d.b
  n : U64 x.n.b
  w : U64 x.w.b
/-- The first field that is wrong, by its number, and what is wrong with it. -/
def spChk (x : Sp) : Int × Int :=
  if chkI x.m.b x.m.s 0 ≠ 0 then (1, chkI x.m.b x.m.s 0) else if chkI x.h.b x.h.s 1 ≠ 0 then (2, chkI x.h.b x.h.s 1) else if chkI x.d.b x.d.s 2 ≠ 0 then (3, chkI x.d.b x.d.s 2)
  else if chkI x.n.b x.n.s 3 ≠ 0 then (4, chkI x.n.b x.n.s 3) else if chkI x.w.b x.w.s 4 ≠ 0 then (5, chkI x.w.b x.w.s 4) else (0, 0)

theorem eg_sf1 (args : Array Value) (w : World) : (callFunc 89 args).run Tryz.prog w = .ok (.enter 89 args) w := by kernel_rfl
theorem eg_sf2 (args : Array Value) (w : World) : (callFunc 90 args).run Tryz.prog w = .ok (.enter 90 args) w := by kernel_rfl
theorem eg_sf3 (args : Array Value) (w : World) : (callFunc 91 args).run Tryz.prog w = .ok (.enter 91 args) w := by kernel_rfl
theorem eg_sf4 (args : Array Value) (w : World) : (callFunc 92 args).run Tryz.prog w = .ok (.enter 92 args) w := by kernel_rfl
theorem eg_sf5 (args : Array Value) (w : World) : (callFunc 93 args).run Tryz.prog w = .ok (.enter 93 args) w := by kernel_rfl
theorem sf1_q (c : Addr) (b off : Nat) (W : World) (hc : W.cell? c = some (.pointer (some ⟨b, off, none⟩))) :
    Calls Tryz.prog 89 #[.pointer (some c)] W fun e w' => e = .returned (.pointer (some ⟨b, off, none⟩)) ∧ W = w' := by
  go_enter Tryz.func89, Tryz.ntmps89
  go_wp2
  go_ret
  exact ⟨rfl, rfl⟩
theorem sf2_q (c : Addr) (b off : Nat) (W : World) (hc : W.cell? c = some (.pointer (some ⟨b, off, none⟩))) :
    Calls Tryz.prog 90 #[.pointer (some c)] W fun e w' => e = .returned (.pointer (some ⟨b, off + 2, none⟩)) ∧ W = w' := by
  go_enter Tryz.func90, Tryz.ntmps90
  go_wp2
  go_ret
  exact ⟨rfl, rfl⟩
theorem sf3_q (c : Addr) (b off : Nat) (W : World) (hc : W.cell? c = some (.pointer (some ⟨b, off, none⟩))) :
    Calls Tryz.prog 91 #[.pointer (some c)] W fun e w' => e = .returned (.pointer (some ⟨b, off + 4, none⟩)) ∧ W = w' := by
  go_enter Tryz.func91, Tryz.ntmps91
  go_wp2
  go_ret
  exact ⟨rfl, rfl⟩
theorem sf4_q (c : Addr) (b off : Nat) (W : World) (hc : W.cell? c = some (.pointer (some ⟨b, off, none⟩))) :
    Calls Tryz.prog 92 #[.pointer (some c)] W fun e w' => e = .returned (.pointer (some ⟨b, off + 6, none⟩)) ∧ W = w' := by
  go_enter Tryz.func92, Tryz.ntmps92
  go_wp2
  go_ret
  exact ⟨rfl, rfl⟩
theorem sf5_q (c : Addr) (b off : Nat) (W : World) (hc : W.cell? c = some (.pointer (some ⟨b, off, none⟩))) :
    Calls Tryz.prog 93 #[.pointer (some c)] W fun e w' => e = .returned (.pointer (some ⟨b, off + 8, none⟩)) ∧ W = w' := by
  go_enter Tryz.func93, Tryz.ntmps93
  go_wp2
  go_ret
  exact ⟨rfl, rfl⟩
theorem fields_any (a : Addr) (w : World) :
    Calls Tryz.prog 55 #[.pointer (some a)] w fun e w' => e = .returned (.agg #[.func (.func 89) #[] #[.pointer (some ⟨w.heap.size, 0, none⟩)],
      .func (.func 90) #[] #[.pointer (some ⟨w.heap.size, 0, none⟩)], .func (.func 91) #[] #[.pointer (some ⟨w.heap.size, 0, none⟩)],
      .func (.func 92) #[] #[.pointer (some ⟨w.heap.size, 0, none⟩)], .func (.func 93) #[] #[.pointer (some ⟨w.heap.size, 0, none⟩)]])
      ∧ w'.cell? ⟨w.heap.size, 0, none⟩ = some (.pointer (some a)) ∧ w.heap.size < w'.heap.size ∧ Below w.heap.size w w' := by
  go_enter Tryz.func55, Tryz.ntmps55
  go_wp2
  refine bodyPost_ret (v := .agg #[.func (.func 89) #[] #[.pointer (some ⟨w.heap.size, 0, none⟩)], .func (.func 90) #[] #[.pointer (some ⟨w.heap.size, 0, none⟩)], .func (.func 91) #[] #[.pointer (some ⟨w.heap.size, 0, none⟩)], .func (.func 92) #[] #[.pointer (some ⟨w.heap.size, 0, none⟩)], .func (.func 93) #[] #[.pointer (some ⟨w.heap.size, 0, none⟩)]]) (by simp [results, Tryz.results55, go_sem]) rfl ⟨rfl, ?_, ?_, ?_⟩
  · go_simp
  · simp; omega
  · (repeat' (first | (with_reducible assumption) | (with_reducible refine Below.setCell ?_ ?_ _) | (with_reducible refine Below.alloc ?_ ?_ _) | (with_reducible refine Below.drew ?_) | (with_reducible refine Below.drewN ?_ _) | (with_reducible exact Below.refl _ _) | (with_reducible exact Nat.le_refl _) | omega | (dsimp only; omega) | (simp; done) | (simp; omega)))
theorem sfi0 (c : Addr) (w : World) : (Instr.index 79 (.agg #[.func (.func 89) #[] #[.pointer (some c)], .func (.func 90) #[] #[.pointer (some c)], .func (.func 91) #[] #[.pointer (some c)], .func (.func 92) #[] #[.pointer (some c)], .func (.func 93) #[] #[.pointer (some c)]]) (.int .i64 0)).run Tryz.prog w = .ok (.func (.func 89) #[] #[.pointer (some c)]) w := by kernel_rfl
theorem sfi1 (c : Addr) (w : World) : (Instr.index 79 (.agg #[.func (.func 89) #[] #[.pointer (some c)], .func (.func 90) #[] #[.pointer (some c)], .func (.func 91) #[] #[.pointer (some c)], .func (.func 92) #[] #[.pointer (some c)], .func (.func 93) #[] #[.pointer (some c)]]) (.int .i64 1)).run Tryz.prog w = .ok (.func (.func 90) #[] #[.pointer (some c)]) w := by kernel_rfl
theorem sfi2 (c : Addr) (w : World) : (Instr.index 79 (.agg #[.func (.func 89) #[] #[.pointer (some c)], .func (.func 90) #[] #[.pointer (some c)], .func (.func 91) #[] #[.pointer (some c)], .func (.func 92) #[] #[.pointer (some c)], .func (.func 93) #[] #[.pointer (some c)]]) (.int .i64 2)).run Tryz.prog w = .ok (.func (.func 91) #[] #[.pointer (some c)]) w := by kernel_rfl
theorem sfi3 (c : Addr) (w : World) : (Instr.index 79 (.agg #[.func (.func 89) #[] #[.pointer (some c)], .func (.func 90) #[] #[.pointer (some c)], .func (.func 91) #[] #[.pointer (some c)], .func (.func 92) #[] #[.pointer (some c)], .func (.func 93) #[] #[.pointer (some c)]]) (.int .i64 3)).run Tryz.prog w = .ok (.func (.func 92) #[] #[.pointer (some c)]) w := by kernel_rfl
theorem sfi4 (c : Addr) (w : World) : (Instr.index 79 (.agg #[.func (.func 89) #[] #[.pointer (some c)], .func (.func 90) #[] #[.pointer (some c)], .func (.func 91) #[] #[.pointer (some c)], .func (.func 92) #[] #[.pointer (some c)], .func (.func 93) #[] #[.pointer (some c)]]) (.int .i64 4)).run Tryz.prog w = .ok (.func (.func 93) #[] #[.pointer (some c)]) w := by kernel_rfl

/-- The cells of a spec's box. -/
def SpIn (W : World) (b : Nat) (x : Sp) : Prop :=
  W.cell? ⟨b, 0, none⟩ = some (.int .u64 x.m.b) ∧ W.cell? ⟨b, 1, none⟩ = some (.bool x.m.s) ∧ W.cell? ⟨b, 2, none⟩ = some (.int .u64 x.h.b) ∧ W.cell? ⟨b, 3, none⟩ = some (.bool x.h.s)
  ∧ W.cell? ⟨b, 4, none⟩ = some (.int .u64 x.d.b) ∧ W.cell? ⟨b, 5, none⟩ = some (.bool x.d.s) ∧ W.cell? ⟨b, 6, none⟩ = some (.int .u64 x.n.b) ∧ W.cell? ⟨b, 7, none⟩ = some (.bool x.n.s)
  ∧ W.cell? ⟨b, 8, none⟩ = some (.int .u64 x.w.b) ∧ W.cell? ⟨b, 9, none⟩ = some (.bool x.w.s)
theorem SpIn.below {W W' : World} {b B : Nat} {x : Sp} (h : SpIn W b x) (hb : Below B W W') (hlt : b < B) : SpIn W' b x := by
  unfold SpIn at h ⊢
  simp only [fun o => hb.cell (p := ⟨b, o, none⟩) hlt]
  exact h

/-- The fields ahead of the k-th are in order. -/
def okTo (k : Nat) (x : Sp) : Prop := (0 < k → chkI x.m.b x.m.s 0 = 0) ∧ (1 < k → chkI x.h.b x.h.s 1 = 0) ∧ (2 < k → chkI x.d.b x.d.s 2 = 0) ∧ (3 < k → chkI x.n.b x.n.s 3 = 0) ∧ (4 < k → chkI x.w.b x.w.s 4 = 0)
theorem okTo_zero (x : Sp) : okTo 0 x := by simp [okTo]
theorem okTo_step0 {x : Sp} (h : okTo 0 x) (hc : chkI x.m.b x.m.s 0 = 0) : okTo 1 x := by simp [okTo] at h ⊢; simp [h, hc]
theorem okTo_bad0 {x : Sp} (h : okTo 0 x) (hc : chkI x.m.b x.m.s 0 ≠ 0) : spChk x = (1, chkI x.m.b x.m.s 0) := by simp [okTo] at h; simp [spChk, h, hc]
theorem okTo_step1 {x : Sp} (h : okTo 1 x) (hc : chkI x.h.b x.h.s 1 = 0) : okTo 2 x := by simp [okTo] at h ⊢; simp [h, hc]
theorem okTo_bad1 {x : Sp} (h : okTo 1 x) (hc : chkI x.h.b x.h.s 1 ≠ 0) : spChk x = (2, chkI x.h.b x.h.s 1) := by simp [okTo] at h; simp [spChk, h, hc]
theorem okTo_step2 {x : Sp} (h : okTo 2 x) (hc : chkI x.d.b x.d.s 2 = 0) : okTo 3 x := by simp [okTo] at h ⊢; simp [h, hc]
theorem okTo_bad2 {x : Sp} (h : okTo 2 x) (hc : chkI x.d.b x.d.s 2 ≠ 0) : spChk x = (3, chkI x.d.b x.d.s 2) := by simp [okTo] at h; simp [spChk, h, hc]
theorem okTo_step3 {x : Sp} (h : okTo 3 x) (hc : chkI x.n.b x.n.s 3 = 0) : okTo 4 x := by simp [okTo] at h ⊢; simp [h, hc]
theorem okTo_bad3 {x : Sp} (h : okTo 3 x) (hc : chkI x.n.b x.n.s 3 ≠ 0) : spChk x = (4, chkI x.n.b x.n.s 3) := by simp [okTo] at h; simp [spChk, h, hc]
theorem okTo_step4 {x : Sp} (h : okTo 4 x) (hc : chkI x.w.b x.w.s 4 = 0) : okTo 5 x := by simp [okTo] at h ⊢; simp [h, hc]
theorem okTo_bad4 {x : Sp} (h : okTo 4 x) (hc : chkI x.w.b x.w.s 4 ≠ 0) : spChk x = (5, chkI x.w.b x.w.s 4) := by simp [okTo] at h; simp [spChk, h, hc]
theorem okTo_all {x : Sp} (h : okTo 5 x) : spChk x = (0, 0) := by simp [okTo] at h; simp [spChk, h]

set_option maxRecDepth 100000 in
set_option maxHeartbeats 2000000 in
theorem spCheck_any (x : Sp) (w : World) (hx : x.Ok) :
    Calls Tryz.prog 66 #[.agg #[.int .u64 x.m.b, .bool x.m.s, .int .u64 x.h.b, .bool x.h.s, .int .u64 x.d.b, .bool x.d.s, .int .u64 x.n.b, .bool x.n.s, .int .u64 x.w.b, .bool x.w.s]] w fun e w' => e = .returned (.tuple #[.int .i64 (spChk x).1, .int .i64 (spChk x).2]) ∧ Below w.heap.size w w' := by
  go_enter Tryz.func66, Tryz.ntmps66
  go_wp2_with fail
  have hS : SpIn (w.alloc (.cells #[.int .u64 x.m.b, .bool x.m.s, .int .u64 x.h.b, .bool x.h.s, .int .u64 x.d.b, .bool x.d.s, .int .u64 x.n.b, .bool x.n.s, .int .u64 x.w.b, .bool x.w.s] 26)) w.heap.size x := by unfold SpIn; go_simp
  refine (fields_any _ _).mono ?_
  rintro e w1 ⟨rfl, hp, hsz, hb⟩
  have hS1 := hS.below hb (by simp)
  have hb0 : Below w.heap.size w w1 := ((Below.refl _ _).alloc (Nat.le_refl _) _).trans (hb.mono (by simp))
  have hlt : w.heap.size + 1 < w1.heap.size := by simp at hsz; omega
  clear hS hb hsz
  go_wp2
  simp only [World.size_alloc] at hp
  go_loopg [8] 5 (fun g v8 W => ∃ k : Nat, k + g = 5 ∧ v8 = .int .i64 k ∧ Hid (okTo k x) ∧ Below w1.heap.size w1 W)
  case atStart => exact ⟨0, rfl, rfl, okTo_zero x, Below.refl _ _⟩
  case round =>
    obtain ⟨k, hk, rfl, hI, hB⟩ := hrel
    have hp' := (hB.cell (p := ⟨w.heap.size + 1, 0, none⟩) hlt).trans hp
    obtain ⟨c0, c1, c2, c3, c4, c5, c6, c7, c8, c9⟩ := hS1.below hB (by omega)
    obtain rfl | rfl | rfl | rfl | rfl | rfl : k = 0 ∨ k = 1 ∨ k = 2 ∨ k = 3 ∨ k = 4 ∨ k = 5 := by omega
    · have i1 := sfi0
      by_cases hc : chkI x.m.b x.m.s 0 = 0
      · have hcb : (chkI x.m.b x.m.s 0 != 0) = false := by simp [hc]
        have hI2 := Lib.hid (okTo_step0 hI.out hc)
        clear hI hc
        go_wp2_with (first | (go_at_call 89; refine (sf1_q _ _ _ _ hp').mono ?_; rintro e w' ⟨rfl, rfl⟩) | (go_at_call 32; refine (check_any _ _ _ _ hx.m).mono ?_; rintro e W2 ⟨rfl, hb2⟩))
        go_roundg (gk - 1)
        case measure => omega
        case rel => exact ⟨1, by omega, rfl, hI2, hB.trans (hb2.mono hB.size)⟩
      · have hcb : (chkI x.m.b x.m.s 0 != 0) = true := by simp [hc]
        have hI2 := Lib.hid (okTo_bad0 hI.out hc)
        clear hI hc
        go_wp2_with (first | (go_at_call 89; refine (sf1_q _ _ _ _ hp').mono ?_; rintro e w' ⟨rfl, rfl⟩) | (go_at_call 32; refine (check_any _ _ _ _ hx.m).mono ?_; rintro e W2 ⟨rfl, hb2⟩))
        go_ret2
        rw [hI2.out]
        exact ⟨rfl, hb0.trans ((hB.trans (hb2.mono hB.size)).mono (by have := hb0.size; omega))⟩
    · have i1 := sfi1
      by_cases hc : chkI x.h.b x.h.s 1 = 0
      · have hcb : (chkI x.h.b x.h.s 1 != 0) = false := by simp [hc]
        have hI2 := Lib.hid (okTo_step1 hI.out hc)
        clear hI hc
        go_wp2_with (first | (go_at_call 90; refine (sf2_q _ _ _ _ hp').mono ?_; rintro e w' ⟨rfl, rfl⟩) | (go_at_call 32; refine (check_any _ _ _ _ hx.h).mono ?_; rintro e W2 ⟨rfl, hb2⟩))
        go_roundg (gk - 1)
        case measure => omega
        case rel => exact ⟨2, by omega, rfl, hI2, hB.trans (hb2.mono hB.size)⟩
      · have hcb : (chkI x.h.b x.h.s 1 != 0) = true := by simp [hc]
        have hI2 := Lib.hid (okTo_bad1 hI.out hc)
        clear hI hc
        go_wp2_with (first | (go_at_call 90; refine (sf2_q _ _ _ _ hp').mono ?_; rintro e w' ⟨rfl, rfl⟩) | (go_at_call 32; refine (check_any _ _ _ _ hx.h).mono ?_; rintro e W2 ⟨rfl, hb2⟩))
        go_ret2
        rw [hI2.out]
        exact ⟨rfl, hb0.trans ((hB.trans (hb2.mono hB.size)).mono (by have := hb0.size; omega))⟩
    · have i1 := sfi2
      by_cases hc : chkI x.d.b x.d.s 2 = 0
      · have hcb : (chkI x.d.b x.d.s 2 != 0) = false := by simp [hc]
        have hI2 := Lib.hid (okTo_step2 hI.out hc)
        clear hI hc
        go_wp2_with (first | (go_at_call 91; refine (sf3_q _ _ _ _ hp').mono ?_; rintro e w' ⟨rfl, rfl⟩) | (go_at_call 32; refine (check_any _ _ _ _ hx.d).mono ?_; rintro e W2 ⟨rfl, hb2⟩))
        go_roundg (gk - 1)
        case measure => omega
        case rel => exact ⟨3, by omega, rfl, hI2, hB.trans (hb2.mono hB.size)⟩
      · have hcb : (chkI x.d.b x.d.s 2 != 0) = true := by simp [hc]
        have hI2 := Lib.hid (okTo_bad2 hI.out hc)
        clear hI hc
        go_wp2_with (first | (go_at_call 91; refine (sf3_q _ _ _ _ hp').mono ?_; rintro e w' ⟨rfl, rfl⟩) | (go_at_call 32; refine (check_any _ _ _ _ hx.d).mono ?_; rintro e W2 ⟨rfl, hb2⟩))
        go_ret2
        rw [hI2.out]
        exact ⟨rfl, hb0.trans ((hB.trans (hb2.mono hB.size)).mono (by have := hb0.size; omega))⟩
    · have i1 := sfi3
      by_cases hc : chkI x.n.b x.n.s 3 = 0
      · have hcb : (chkI x.n.b x.n.s 3 != 0) = false := by simp [hc]
        have hI2 := Lib.hid (okTo_step3 hI.out hc)
        clear hI hc
        go_wp2_with (first | (go_at_call 92; refine (sf4_q _ _ _ _ hp').mono ?_; rintro e w' ⟨rfl, rfl⟩) | (go_at_call 32; refine (check_any _ _ _ _ hx.n).mono ?_; rintro e W2 ⟨rfl, hb2⟩))
        go_roundg (gk - 1)
        case measure => omega
        case rel => exact ⟨4, by omega, rfl, hI2, hB.trans (hb2.mono hB.size)⟩
      · have hcb : (chkI x.n.b x.n.s 3 != 0) = true := by simp [hc]
        have hI2 := Lib.hid (okTo_bad3 hI.out hc)
        clear hI hc
        go_wp2_with (first | (go_at_call 92; refine (sf4_q _ _ _ _ hp').mono ?_; rintro e w' ⟨rfl, rfl⟩) | (go_at_call 32; refine (check_any _ _ _ _ hx.n).mono ?_; rintro e W2 ⟨rfl, hb2⟩))
        go_ret2
        rw [hI2.out]
        exact ⟨rfl, hb0.trans ((hB.trans (hb2.mono hB.size)).mono (by have := hb0.size; omega))⟩
    · have i1 := sfi4
      by_cases hc : chkI x.w.b x.w.s 4 = 0
      · have hcb : (chkI x.w.b x.w.s 4 != 0) = false := by simp [hc]
        have hI2 := Lib.hid (okTo_step4 hI.out hc)
        clear hI hc
        go_wp2_with (first | (go_at_call 93; refine (sf5_q _ _ _ _ hp').mono ?_; rintro e w' ⟨rfl, rfl⟩) | (go_at_call 32; refine (check_any _ _ _ _ hx.w).mono ?_; rintro e W2 ⟨rfl, hb2⟩))
        go_roundg (gk - 1)
        case measure => omega
        case rel => exact ⟨5, by omega, rfl, hI2, hB.trans (hb2.mono hB.size)⟩
      · have hcb : (chkI x.w.b x.w.s 4 != 0) = true := by simp [hc]
        have hI2 := Lib.hid (okTo_bad4 hI.out hc)
        clear hI hc
        go_wp2_with (first | (go_at_call 93; refine (sf5_q _ _ _ _ hp').mono ?_; rintro e w' ⟨rfl, rfl⟩) | (go_at_call 32; refine (check_any _ _ _ _ hx.w).mono ?_; rintro e W2 ⟨rfl, hb2⟩))
        go_ret2
        rw [hI2.out]
        exact ⟨rfl, hb0.trans ((hB.trans (hb2.mono hB.size)).mono (by have := hb0.size; omega))⟩
    · have hI2 := Lib.hid (okTo_all hI.out)
      clear hI
      go_wp2
      go_ret2
      rw [hI2.out]
      exact ⟨rfl, hb0.trans (hB.mono (by omega))⟩

end Go.Proofs.YtkdejfedigiohaaGreatDoor

/- The lex layer's functions: numbers, names, values, words. -/
namespace Go.Proofs.YtkdejfedigiohaaGreatDoor
open Go.RowKit Go.Proofs.YtkdejfedigiohaaGreatDoorW.PrintWords Go.Proofs.YtkdejfedigiohaaGreatDoorW.PrintLast Go.Proofs.YtkdejfedigiohaaGreatDoorW.PrintMore
set_option linter.unusedVariables false
set_option linter.unusedSimpArgs false


def digI (c : Int) : Bool := decide (48 ≤ c) && decide (c ≤ 57)
theorem digit_q (c : Int) (w : World) :
    Calls Tryz.prog 136 #[.int .i32 c] w fun e w' => e = .returned (.bool (digI c)) ∧ w = w' := by
  unfold digI
  by_cases h : 48 ≤ c
  · have hb : decide (48 ≤ c) = true := by simpa using h
    go_enter Tryz.func136, Tryz.ntmps136
    go_wp2
    go_ret
    exact ⟨ret_bool (by simp [h]), rfl⟩
  · have hb : decide (48 ≤ c) = false := by simpa using h
    go_enter Tryz.func136, Tryz.ntmps136
    go_wp2
    go_ret
    exact ⟨ret_bool (by simp [h]), rfl⟩

def lexLo (kind : Int) : Int := if kind = 2 ∨ kind = 3 then 1 else 0
def lexHi (kind : Int) : Int := if kind = 0 then 59 else if kind = 1 then 23 else if kind = 2 then 31 else if kind = 3 then 12 else 7
theorem limits_q (kind : Int) (w : World) (h0 : 0 ≤ kind) (h1 : kind ≤ 4) :
    Calls Tryz.prog 104 #[.int .i64 kind] w fun e w' => e = .returned (.tuple #[.int .i64 (lexLo kind), .int .i64 (lexHi kind), .int .i64 0]) ∧ w = w' := by
  obtain rfl | rfl | rfl | rfl | rfl : kind = 0 ∨ kind = 1 ∨ kind = 2 ∨ kind = 3 ∨ kind = 4 := by omega
  all_goals
    go_enter Tryz.func104, Tryz.ntmps104
    go_wp2
    go_ret3
    exact ⟨rfl, rfl⟩

/-- A number, by tens; and what is wrong. -/
def numGo : List UInt8 → Int → Int × Int
  | [], n => (n, 0)
  | c :: r, n => if digI c.toNat = true then numGo r (10 * n + (c.toNat - 48)) else (0, 2)
def numL (l : List UInt8) : Int × Int := if l = [] ∨ 4 < l.length then (0, 2) else numGo l 0

def p10 : Nat → Int | 0 => 1 | 1 => 10 | 2 => 100 | 3 => 1000 | _ => 10000
theorem p10_le (n : Nat) : p10 n ≤ 10000 := by unfold p10; split <;> omega
theorem p10_succ (n : Nat) (h : n ≤ 3) : p10 (n + 1) = 10 * p10 n := by
  obtain rfl | rfl | rfl | rfl : n = 0 ∨ n = 1 ∨ n = 2 ∨ n = 3 := by omega
  all_goals rfl
theorem drop_at (s : ByteArray) (pos : Nat) (h : pos < s.size) : s.data.toList.drop pos = s[pos] :: s.data.toList.drop (pos + 1) := by
  rw [List.drop_eq_getElem_cons (by simpa using h)]; rfl
theorem size_toList (s : ByteArray) : s.data.toList.length = s.size := rfl
theorem ret2_ints {a b a' b' : Int} (h1 : a = a') (h2 : b = b') : Ending.returned (.tuple #[.int .i64 a, .int .i64 b]) = .returned (.tuple #[.int .i64 a', .int .i64 b']) := by rw [h1, h2]

set_option maxRecDepth 100000 in
set_option maxHeartbeats 2000000 in
theorem number_any (s : ByteArray) (w : World) :
    Calls Tryz.prog 110 #[.string s] w fun e w' => e = .returned (.tuple #[.int .i64 (numL s.data.toList).1, .int .i64 (numL s.data.toList).2]) ∧ Below w.heap.size w w' := by
  by_cases h0 : s.data.toList = []
  · have hn : numL s.data.toList = (0, 2) := by unfold numL; rw [if_pos (.inl h0)]
    rw [hn]
    have h1 : s.toList = [] := by rw [ByteArray.toList_eq] ; exact h0
    have h2 : s.toList.isEmpty = true := by rw [h1]; rfl
    clear hn h0
    go_enter Tryz.func110, Tryz.ntmps110
    go_wp2
    go_ret2
    exact ⟨rfl, Below.refl _ _⟩
  · have h2 : s.toList.isEmpty = false := by
      rw [ByteArray.toList_eq]; simpa using h0
    by_cases h4 : 4 < s.size
    · have hn : numL s.data.toList = (0, 2) := by unfold numL; rw [if_pos (.inr (by rw [size_toList]; exact h4))]
      rw [hn]
      clear hn h0
      have h4' : (4 : Int) < (s.size : Int) := by omega
      go_enter Tryz.func110, Tryz.ntmps110
      go_wp2
      go_ret2
      exact ⟨rfl, Below.refl _ _⟩
    · have hn := Lib.hid (show numL s.data.toList = numGo s.data.toList 0 by unfold numL; rw [if_neg (by rw [size_toList]; simp only [not_or]; exact ⟨h0, h4⟩)])
      have h4' : (s.size : Int) ≤ 4 := by omega
      clear h0
      go_enter Tryz.func110, Tryz.ntmps110
      go_wp2
      go_loopw [4] (fun v w' => ∃ (pos : Nat) (acc : Int), w' = w.iter s pos ∧ v = .int .i64 acc ∧ pos ≤ s.size ∧ 0 ≤ acc ∧ acc < p10 pos ∧ Hid (numGo (s.data.toList.drop pos) acc = numL s.data.toList)) (fun _ w' => s.size - w'.iterPos w.heap.size)
      case atStart => exact ⟨0, 0, rfl, rfl, by omega, by omega, by decide, by rw [hn.out]; rfl⟩
      case round =>
        obtain ⟨pos, acc, rfl, rfl, hps, ha0, ha1, hg⟩ := hrel
        by_cases hp : pos < s.size
        · have hnx : ∀ ty, (Instr.next (.pointer (some ⟨w.heap.size, 0, none⟩)) true ty).run Tryz.prog (w.iter s pos) = _ := fun ty => run_next_any w s pos ty hp
          by_cases hd : digI (s[pos].toNat : Int) = true
          · have hasc : (s[pos].toNat : Int) < 128 := by unfold digI at hd; simp at hd; omega
            have hdec := decode_ascii s pos hp (by omega)
            rw [hdec] at hnx
            have hd' := hd
            unfold digI at hd'
            simp only [Bool.and_eq_true, decide_eq_true_eq] at hd'
            obtain ⟨hd1, hd2⟩ := hd'
            have hg2 := Lib.hid (show numGo (s.data.toList.drop (pos + 1)) (10 * acc + ((s[pos].toNat : Int) - 48)) = numL s.data.toList by
              rw [← hg.out, drop_at s pos hp]; simp only [numGo]; rw [if_pos hd])
            have hq := digit_q (s[pos].toNat : Int)
            rw [hd] at hq
            have hq := fun w => Lib.hid (hq w)
            have hb : acc < 10000 := by have := p10_le pos; omega
            have hpw : (10 : Int) * acc + ((s[pos].toNat : Int) - 48) < p10 (pos + 1) := by rw [p10_succ pos (by omega)]; omega
            have hpw := Lib.hid hpw
            clear hd hdec hg ha1
            go_wp2_with (go_at_call 136; refine (hq _).out.mono ?_; rintro e w' ⟨rfl, rfl⟩)
            go_roundw
            case rel => exact ⟨pos + 1, 10 * acc + ((s[pos].toNat : Int) - 48), rfl, by go_num, by omega, by omega, hpw.out, hg2⟩
            case measure => simp; omega
          · have hg2 := Lib.hid (show numL s.data.toList = (0, 2) by
              rw [← hg.out, drop_at s pos hp]; simp only [numGo]; rw [if_neg hd])
            have hq := digit_q ((Utf8.decode s pos).1 : Int)
            have hd2 : digI ((Utf8.decode s pos).1 : Int) = false := by
              by_cases hasc : s[pos].toNat < 128
              · rw [decode_ascii s pos hp hasc]; simpa using hd
              · have := (decode_high s pos hp (by omega)).1
                unfold digI; simp; omega
            rw [hd2] at hq
            have hq := fun w => Lib.hid (hq w)
            clear hd hd2 hg ha1
            go_wp2_with (go_at_call 136; refine (hq _).out.mono ?_; rintro e w' ⟨rfl, rfl⟩)
            go_ret2
            exact ⟨by rw [hg2.out]; rfl, (Below.refl _ _).alloc (Nat.le_refl _) _⟩
        · have hnx : ∀ ty, (Instr.next (.pointer (some ⟨w.heap.size, 0, none⟩)) true ty).run Tryz.prog (w.iter s pos) = _ := fun ty => run_next_end w s pos ty hp
          have hg2 := Lib.hid (show numL s.data.toList = (acc, 0) by
            rw [← hg.out, List.drop_eq_nil_of_le (by rw [size_toList]; omega)]; rfl)
          clear hg ha1
          go_wp2
          go_ret2
          exact ⟨by rw [hg2.out]; rfl, (Below.refl _ _).alloc (Nat.le_refl _) _⟩

end Go.Proofs.YtkdejfedigiohaaGreatDoor

/- lex.Value at a text that begins with a digit. -/
namespace Go.Proofs.YtkdejfedigiohaaGreatDoor
open Go.RowKit Go.Proofs.YtkdejfedigiohaaGreatDoorW.PrintWords Go.Proofs.YtkdejfedigiohaaGreatDoorW.PrintLast Go.Proofs.YtkdejfedigiohaaGreatDoorW.PrintMore
set_option linter.unusedVariables false
set_option linter.unusedSimpArgs false

theorem eg_val1 (args : Array Value) (w : World) : (callFunc 134 args).run Tryz.prog w = .ok (.enter 134 args) w := by kernel_rfl
theorem eg_val2 (args : Array Value) (w : World) : (callFunc 137 args).run Tryz.prog w = .ok (.enter 137 args) w := by kernel_rfl

/-- A number as a value of a kind. -/
def rangeI (kind : Int) (p : Int × Int) : Int × Int := if p.2 = 0 ∧ (p.1 < lexLo kind ∨ lexHi kind < p.1) then (0, 1) else p

set_option maxRecDepth 100000 in
set_option maxHeartbeats 2000000 in
theorem val2_any (s : ByteArray) (b : Nat) (W : World) (hs : W.cell? ⟨b, 0, none⟩ = some (.string s)) :
    Calls Tryz.prog 137 #[.pointer (some ⟨b, 0, none⟩)] W fun e w' => e = .returned (.tuple #[.int .i64 (numL s.data.toList).1, .int .i64 (numL s.data.toList).2]) ∧ Below W.heap.size W w' := by
  go_enter Tryz.func137, Tryz.ntmps137
  go_wp2_with fail
  refine (number_any s _).mono ?_
  rintro e w1 ⟨rfl, hb⟩
  go_wp2
  go_ret2
  exact ⟨rfl, hb⟩

set_option maxRecDepth 100000 in
set_option maxHeartbeats 2000000 in
theorem value_dig (s : ByteArray) (kind : Int) (w : World) (h0 : 0 ≤ kind) (h1 : kind ≤ 4) (hs : 0 < s.size) (hd : digI (s[0].toNat : Int) = true) :
    Calls Tryz.prog 109 #[.string s, .int .i64 kind] w fun e w' => e = .returned (.tuple #[.int .i64 (rangeI kind (numL s.data.toList)).1, .int .i64 (rangeI kind (numL s.data.toList)).2]) ∧ Below w.heap.size w w' := by
  have h2 : s.toList.isEmpty = false := by
    rw [ByteArray.toList_eq]
    cases h : s.data.toList with
    | nil => exact absurd (show s.data.toList.length = 0 by rw [h]; rfl) (by rw [size_toList]; omega)
    | cons a l => rfl
  have hq := digit_q (s[0].toNat : Int)
  rw [hd] at hq
  have hq := fun w => Lib.hid (hq w)
  have hv := fun W b k => Lib.hid (val2_any s b W k)
  have hR : Hid (∀ n e, numL s.data.toList = (n, e) → rangeI kind (numL s.data.toList) = if e = 0 ∧ (n < lexLo kind ∨ lexHi kind < n) then (0, 1) else (n, e)) := fun n e h => by rw [h]; rfl
  generalize hN : rangeI kind (numL s.data.toList) = R at hR ⊢
  generalize hM : numL s.data.toList = M at hR hv
  obtain ⟨n, er⟩ := M
  have hR := hR.out n er rfl
  have hRH := Lib.hid hR
  clear hR hN hM
  have e1 := eg_val2
  have hw32 : wrap32 (s[0].toNat : Int) = s[0].toNat := by
    have := s[0].toNat_lt
    unfold wrap32; omega
  clear hd
  go_enter Tryz.func109, Tryz.ntmps109
  go_wp2_with fail
  refine (limits_q kind _ h0 h1).mono ?_
  rintro e w1 ⟨rfl, rfl⟩
  go_wp2_with fail
  refine (hq _).out.mono ?_
  rintro e w1 ⟨rfl, rfl⟩
  go_wp2_with fail
  refine (hv _ _ (by go_simp)).out.mono ?_
  rintro e w1 ⟨rfl, hb⟩
  have hb0 : Below w.heap.size w w1 := ((Below.refl _ _).alloc (Nat.le_refl _) _).alloc (by simp) _ |>.trans (hb.mono (by simp; omega))
  clear hb
  by_cases he : er = 0
  · subst he
    by_cases hlo : n < lexLo kind
    · have hR2 := Lib.hid (show R = (0, 1) by rw [hRH.out, if_pos ⟨rfl, .inl hlo⟩])
      clear hRH hR
      go_wp2
      go_ret2
      exact ⟨by rw [hR2.out]; rfl, hb0⟩
    · by_cases hhi : lexHi kind < n
      · have hR2 := Lib.hid (show R = (0, 1) by rw [hRH.out, if_pos ⟨rfl, .inr hhi⟩])
        clear hRH hR
        go_wp2
        go_ret2
        exact ⟨by rw [hR2.out]; rfl, hb0⟩
      · have hR2 := Lib.hid (show R = (n, 0) by rw [hRH.out, if_neg (fun h => by rcases h.2 with h | h <;> omega)])
        clear hRH hR
        go_wp2
        go_ret2
        exact ⟨by rw [hR2.out]; rfl, hb0⟩
  · have heb : (er == 0) = false := by simpa using he
    have hR2 := Lib.hid (show R = (n, er) by rw [hRH.out, if_neg (fun h => he h.1)])
    clear he
    clear hRH hR
    go_wp2
    go_ret2
    exact ⟨by rw [hR2.out]; rfl, hb0⟩

end Go.Proofs.YtkdejfedigiohaaGreatDoor
