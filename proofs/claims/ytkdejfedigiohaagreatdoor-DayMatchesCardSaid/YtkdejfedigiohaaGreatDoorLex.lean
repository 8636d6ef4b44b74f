/- The lex layer's functions: numbers, names, values, words. -/
import Derived.Test.YtkdejfedigiohaaGreatDoorCivil2
import Derived.Laws.RangeAny
namespace Go.Proofs.YtkdejfedigiohaaGreatDoor
open Go.RowKit Go.Proofs.YtkdejfedigiohaaGreatDoorW.PrintWords Go.Proofs.YtkdejfedigiohaaGreatDoorW.PrintLast Go.Proofs.YtkdejfedigiohaaGreatDoorW.PrintMore
set_option linter.unusedVariables false
set_option linter.unusedSimpArgs false


def digI (c : Int) : Bool := decide (48 ≤ c) && decide (c ≤ 57)
theorem digit_q (c : Int) (w : World) :
    Calls Tryz.prog 136 #[.int .i32 c] w fun e w' => e = .returned (.bool (digI c)) ∧ w = w' := by
  unfold digI
  by_cases h : 48 ≤ c
  · have hb : decide (48 ≤ c) = true := by simpa using h
    go_enter Tryz.func136, Tryz.ntmps136
    go_wp2
    go_ret
    exact ⟨ret_bool (by simp [h]), rfl⟩
  · have hb : decide (48 ≤ c) = false := by simpa using h
    go_enter Tryz.func136, Tryz.ntmps136
    go_wp2
    go_ret
    exact ⟨ret_bool (by simp [h]), rfl⟩

def lexLo (kind : Int) : Int := if kind = 2 ∨ kind = 3 then 1 else 0
def lexHi (kind : Int) : Int := if kind = 0 then 59 else if kind = 1 then 23 else if kind = 2 then 31 else if kind = 3 then 12 else 7
theorem limits_q (kind : Int) (w : World) (h0 : 0 ≤ kind) (h1 : kind ≤ 4) :
    Calls Tryz.prog 104 #[.int .i64 kind] w fun e w' => e = .returned (.tuple #[.int .i64 (lexLo kind), .int .i64 (lexHi kind), .int .i64 0]) ∧ w = w' := by
  obtain rfl | rfl | rfl | rfl | rfl : kind = 0 ∨ kind = 1 ∨ kind = 2 ∨ kind = 3 ∨ kind = 4 := by omega
  all_goals
    go_enter Tryz.func104, Tryz.ntmps104
    go_wp2
    go_ret3
    exact ⟨rfl, rfl⟩

/-- A number, by tens; and what is wrong. -/
def numGo : List UInt8 → Int → Int × Int
  | [], n => (n, 0)
  | c :: r, n => if digI c.toNat = true then numGo r (10 * n + (c.toNat - 48)) else (0, 2)
def numL (l : List UInt8) : Int × Int := if l = [] ∨ 4 < l.length then (0, 2) else numGo l 0

def p10 : Nat → Int | 0 => 1 | 1 => 10 | 2 => 100 | 3 => 1000 | _ => 10000
theorem p10_le (n : Nat) : p10 n ≤ 10000 := by unfold p10; split <;> omega
theorem p10_succ (n : Nat) (h : n ≤ 3) : p10 (n + 1) = 10 * p10 n := by
  obtain rfl | rfl | rfl | rfl : n = 0 ∨ n = 1 ∨ n = 2 ∨ n = 3 := by omega
  all_goals rfl
theorem drop_at (s : ByteArray) (pos : Nat) (h : pos < s.size) : s.data.toList.drop pos = s[pos] :: s.data.toList.drop (pos + 1) := by
  rw [List.drop_eq_getElem_cons (by simpa using h)]; rfl
theorem size_toList (s : ByteArray) : s.data.toList.length = s.size := rfl
theorem ret2_ints {a b a' b' : Int} (h1 : a = a') (h2 : b = b') : Ending.returned (.tuple #[.int .i64 a, .int .i64 b]) = .returned (.tuple #[.int .i64 a', .int .i64 b']) := by rw [h1, h2]

set_option maxRecDepth 100000 in
set_option maxHeartbeats 2000000 in
theorem number_any (s : ByteArray) (w : World) :
    Calls Tryz.prog 110 #[.string s] w fun e w' => e = .returned (.tuple #[.int .i64 (numL s.data.toList).1, .int .i64 (numL s.data.toList).2]) ∧ Below w.heap.size w w' := by
  by_cases h0 : s.data.toList = []
  · have hn : numL s.data.toList = (0, 2) := by unfold numL; rw [if_pos (.inl h0)]
    rw [hn]
    have h1 : s.toList = [] := by rw [ByteArray.toList_eq] ; exact h0
    have h2 : s.toList.isEmpty = true := by rw [h1]; rfl
    clear hn h0
    go_enter Tryz.func110, Tryz.ntmps110
    go_wp2
    go_ret2
    exact ⟨rfl, Below.refl _ _⟩
  · have h2 : s.toList.isEmpty = false := by
      rw [ByteArray.toList_eq]; simpa using h0
    by_cases h4 : 4 < s.size
    · have hn : numL s.data.toList = (0, 2) := by unfold numL; rw [if_pos (.inr (by rw [size_toList]; exact h4))]
      rw [hn]
      clear hn h0
      have h4' : (4 : Int) < (s.size : Int) := by omega
      go_enter Tryz.func110, Tryz.ntmps110
      go_wp2
      go_ret2
      exact ⟨rfl, Below.refl _ _⟩
    · have hn := Lib.hid (show numL s.data.toList = numGo s.data.toList 0 by unfold numL; rw [if_neg (by rw [size_toList]; simp only [not_or]; exact ⟨h0, h4⟩)])
      have h4' : (s.size : Int) ≤ 4 := by omega
      clear h0
      go_enter Tryz.func110, Tryz.ntmps110
      go_wp2
      go_loopw [4] (fun v w' => ∃ (pos : Nat) (acc : Int), w' = w.iter s pos ∧ v = .int .i64 acc ∧ pos ≤ s.size ∧ 0 ≤ acc ∧ acc < p10 pos ∧ Hid (numGo (s.data.toList.drop pos) acc = numL s.data.toList)) (fun _ w' => s.size - w'.iterPos w.heap.size)
      case atStart => exact ⟨0, 0, rfl, rfl, by omega, by omega, by decide, by rw [hn.out]; rfl⟩
      case round =>
        obtain ⟨pos, acc, rfl, rfl, hps, ha0, ha1, hg⟩ := hrel
        by_cases hp : pos < s.size
        · have hnx : ∀ ty, (Instr.next (.pointer (some ⟨w.heap.size, 0, none⟩)) true ty).run Tryz.prog (w.iter s pos) = _ := fun ty => run_next_any w s pos ty hp
          by_cases hd : digI (s[pos].toNat : Int) = true
          · have hasc : (s[pos].toNat : Int) < 128 := by unfold digI at hd; simp at hd; omega
            have hdec := decode_ascii s pos hp (by omega)
            rw [hdec] at hnx
            have hd' := hd
            unfold digI at hd'
            simp only [Bool.and_eq_true, decide_eq_true_eq] at hd'
            obtain ⟨hd1, hd2⟩ := hd'
            have hg2 := Lib.hid (show numGo (s.data.toList.drop (pos + 1)) (10 * acc + ((s[pos].toNat : Int) - 48)) = numL s.data.toList by
              rw [← hg.out, drop_at s pos hp]; simp only [numGo]; rw [if_pos hd])
            have hq := digit_q (s[pos].toNat : Int)
            rw [hd] at hq
            have hq := fun w => Lib.hid (hq w)
            have hb : acc < 10000 := by have := p10_le pos; omega
            have hpw : (10 : Int) * acc + ((s[pos].toNat : Int) - 48) < p10 (pos + 1) := by rw [p10_succ pos (by omega)]; omega
            have hpw := Lib.hid hpw
            clear hd hdec hg ha1
            go_wp2_with (go_at_call 136; refine (hq _).out.mono ?_; rintro e w' ⟨rfl, rfl⟩)
            go_roundw
            case rel => exact ⟨pos + 1, 10 * acc + ((s[pos].toNat : Int) - 48), rfl, by go_num, by omega, by omega, hpw.out, hg2⟩
            case measure => simp; omega
          · have hg2 := Lib.hid (show numL s.data.toList = (0, 2) by
              rw [← hg.out, drop_at s pos hp]; simp only [numGo]; rw [if_neg hd])
            have hq := digit_q ((Utf8.decode s pos).1 : Int)
            have hd2 : digI ((Utf8.decode s pos).1 : Int) = false := by
              by_cases hasc : s[pos].toNat < 128
              · rw [decode_ascii s pos hp hasc]; simpa using hd
              · have := (decode_high s pos hp (by omega)).1
                unfold digI; simp; omega
            rw [hd2] at hq
            have hq := fun w => Lib.hid (hq w)
            clear hd hd2 hg ha1
            go_wp2_with (go_at_call 136; refine (hq _).out.mono ?_; rintro e w' ⟨rfl, rfl⟩)
            go_ret2
            exact ⟨by rw [hg2.out]; rfl, (Below.refl _ _).alloc (Nat.le_refl _) _⟩
        · have hnx : ∀ ty, (Instr.next (.pointer (some ⟨w.heap.size, 0, none⟩)) true ty).run Tryz.prog (w.iter s pos) = _ := fun ty => run_next_end w s pos ty hp
          have hg2 := Lib.hid (show numL s.data.toList = (acc, 0) by
            rw [← hg.out, List.drop_eq_nil_of_le (by rw [size_toList]; omega)]; rfl)
          clear hg ha1
          go_wp2
          go_ret2
          exact ⟨by rw [hg2.out]; rfl, (Below.refl _ _).alloc (Nat.le_refl _) _⟩

end Go.Proofs.YtkdejfedigiohaaGreatDoor
