/- The civil layer's functions, more: days, dates, minutes by the calendar. -/
import Derived.Test.YtkdejfedigiohaaGreatDoorCivil
import Derived.StillTailTactics
import Derived.Deep.DeepFit
namespace Go.Proofs.YtkdejfedigiohaaGreatDoor
open Go.RowKit Go.Proofs.YtkdejfedigiohaaGreatDoorW.PrintWords Go.Proofs.YtkdejfedigiohaaGreatDoorW.PrintLast Go.Proofs.YtkdejfedigiohaaGreatDoorW.PrintMore
set_option linter.unusedVariables false
set_option linter.unusedSimpArgs false

theorem flip {P : Program} {f : FuncId} {args : Array Value} {w : World} {v : Value} (h : Calls P f args w fun e w' => e = .returned v ∧ w = w') :
    Calls P f args w fun e w' => e = .returned v ∧ w' = w := h.mono fun _ _ ⟨a, b⟩ => ⟨a, b.symm⟩

theorem aheadI_bd (y : Int) (h0 : 1970 ≤ y) (h1 : y ≤ 3000) : 0 ≤ aheadI y ∧ aheadI y ≤ 376200 := by
  have a := ahead_mono 1970 y h0
  have b := ahead_mono y 3000 h1
  have c : aheadI 1970 = 0 := by decide
  have d : aheadI 3000 = 376200 := by decide
  omega

theorem date1_q (b : Nat) (day : Int) (i : Nat) (W : World) (hi : i < 1029) (hc : W.cell? ⟨b, 0, none⟩ = some (.int .i64 day)) :
    Calls Tryz.prog 85 #[.int .i64 i, .pointer (some ⟨b, 0, none⟩)] W fun e w' => e = .returned (.bool (decide (day < aheadI ((i : Int) + 1971)))) ∧ ∃ q, w' = W.drewN q := by
  go_enter Tryz.func85, Tryz.ntmps85
  go_wp2
  go_quiet ((go_at_call 86; exact Calls.quiet_of_same (flip (ahead_q _ (by omega) (by omega) _))))
  go_wp2
  go_ret
  exact ⟨ret_bool (by rw [show (1970 : Int) + (i : Int) + 1 = (i : Int) + 1971 by omega]), nq, rfl⟩

theorem date2_q (by_ bd : Nat) (y day : Int) (i : Nat) (W : World) (hi : i < 11) (hy : W.cell? ⟨by_, 0, none⟩ = some (.int .i64 y)) (hc : W.cell? ⟨bd, 0, none⟩ = some (.int .i64 day)) :
    Calls Tryz.prog 87 #[.int .i64 i, .pointer (some ⟨by_, 0, none⟩), .pointer (some ⟨bd, 0, none⟩)] W fun e w' => e = .returned (.bool (decide (day < goneI y ((i : Int) + 2)))) ∧ ∃ q, w' = W.drewN q := by
  go_enter Tryz.func87, Tryz.ntmps87
  go_wp2
  go_quiet ((go_at_call 88; exact Calls.quiet_of_same (flip (gone_q _ _ (by omega) (by omega) _))))
  go_wp2
  go_ret
  exact ⟨rfl, nq, rfl⟩

theorem day_ok (y m d : Int) (w : World) (h0 : 1970 ≤ y) (h1 : y ≤ 2999) (h2 : 1 ≤ d) (h3 : d ≤ lenI y m) :
    Calls Tryz.prog 52 #[.int .i64 y, .int .i64 m, .int .i64 d] w fun e w' => e = .returned (.tuple #[.int .i64 (aheadI y + goneI y m + d - 1), .int .i64 0]) ∧ w = w' := by
  have hm : 1 ≤ m ∧ m ≤ 12 := by
    unfold lenI at h3; split at h3 <;> omega
  have b1 := aheadI_bd y h0 (by omega)
  have b2 := goneI_bd y m hm.1 (by omega)
  have b3 := lenI_bd y m
  go_enter Tryz.func52, Tryz.ntmps52
  go_wp2_with (first
    | (go_at_call 22; refine (length_q _ _ _).mono ?_; rintro e w' ⟨rfl, rfl⟩)
    | (go_at_call 86; refine (ahead_q _ (by omega) (by omega) _).mono ?_; rintro e w' ⟨rfl, rfl⟩)
    | (go_at_call 88; refine (gone_q _ _ (by omega) (by omega) _).mono ?_; rintro e w' ⟨rfl, rfl⟩))
  go_ret2
  exact ⟨rfl, rfl⟩

theorem day_no (y m d : Int) (w : World) (h : ¬ (1970 ≤ y ∧ y ≤ 2999 ∧ 1 ≤ d ∧ d ≤ lenI y m)) :
    Calls Tryz.prog 52 #[.int .i64 y, .int .i64 m, .int .i64 d] w fun e w' => e = .returned (.tuple #[.int .i64 0, .int .i64 1]) ∧ w = w' := by
  by_cases h0 : y < 1970
  · clear h
    go_enter Tryz.func52, Tryz.ntmps52
    go_wp2
    go_ret2
    exact ⟨rfl, rfl⟩
  · by_cases h1 : 2999 < y
    · clear h
      go_enter Tryz.func52, Tryz.ntmps52
      go_wp2
      go_ret2
      exact ⟨rfl, rfl⟩
    · by_cases h2 : d < 1
      · clear h
        go_enter Tryz.func52, Tryz.ntmps52
        go_wp2
        go_ret2
        exact ⟨rfl, rfl⟩
      · have h3 : lenI y m < d := by omega
        clear h
        go_enter Tryz.func52, Tryz.ntmps52
        go_wp2_with (first
          | (go_at_call 22; refine (length_q _ _ _).mono ?_; rintro e w' ⟨rfl, rfl⟩))
        go_ret2
        exact ⟨rfl, rfl⟩

theorem date_no (n : Int) (w : World) (h : n < 0 ∨ 376199 < n) :
    Calls Tryz.prog 48 #[.int .i64 n] w fun e w' => e = .returned (.tuple #[.int .i64 0, .int .i64 0, .int .i64 0, .int .i64 1]) ∧ Below w.heap.size w w' := by
  rcases h with h | h
  · go_enter Tryz.func48, Tryz.ntmps48
    go_wp2
    exact bodyPost_ret (v := .tuple #[.int .i64 0, .int .i64 0, .int .i64 0, .int .i64 1]) (by simp [results, Tryz.results48, go_sem]) rfl ⟨rfl, (Below.refl _ _).alloc (Nat.le_refl _) _⟩
  · have h' : ¬ n < 0 := by omega
    go_enter Tryz.func48, Tryz.ntmps48
    go_wp2
    exact bodyPost_ret (v := .tuple #[.int .i64 0, .int .i64 0, .int .i64 0, .int .i64 1]) (by simp [results, Tryz.results48, go_sem]) rfl ⟨rfl, (Below.refl _ _).alloc (Nat.le_refl _) _⟩

theorem eg_date1 (args : Array Value) (w : World) : (callFunc 85 args).run Tryz.prog w = .ok (.enter 85 args) w := by kernel_rfl
theorem eg_date2 (args : Array Value) (w : World) : (callFunc 87 args).run Tryz.prog w = .ok (.enter 87 args) w := by kernel_rfl

theorem _root_.Go.RowKit.Below.drewN {B : Nat} {a w : World} (h : Below B a w) (n : Nat) : Below B a (w.drewN n) := ⟨h.os, h.tape, h.output, h.size, h.block⟩

def DateSaid (n : Int) (w : World) (e : Ending) (w' : World) : Prop :=
  ∃ y m d : Int, IsDate n y m d ∧ e = .returned (.tuple #[.int .i64 y, .int .i64 m, .int .i64 d, .int .i64 0]) ∧ Below w.heap.size w w'

set_option maxRecDepth 100000 in
set_option maxHeartbeats 1000000 in
theorem date_ok (n : Int) (w : World) (h0 : 0 ≤ n) (h1 : n ≤ 376199) :
    Calls Tryz.prog 48 #[.int .i64 n] w (DateSaid n w) := by
  have H1 := search_q 85 #[.pointer (some ⟨w.heap.size, 0, none⟩)] 1029 (fun i => decide (n < aheadI ((i : Int) + 1971))) (w.alloc (.cells #[.int .i64 n] 3)) eg_date1 (by omega)
    (fun m i hi => date1_q _ n i _ hi (by simp)) (fun a b hab _ h => by have := ahead_mono ((a : Int) + 1971) ((b : Int) + 1971) (by omega); simp at h ⊢; omega)
  have H1' := Lib.hid H1
  clear H1
  go_enter Tryz.func48, Tryz.ntmps48
  go_wp2_with fail
  refine H1'.out.mono ?_
  rintro e w' ⟨⟨k, rfl, hk, hf, ht⟩, q, rfl⟩
  have ha := aheadI_bd (1970 + (k : Int)) (by omega) (by omega)
  have hlo : aheadI (1970 + (k : Int)) ≤ n := by
    by_cases hk0 : k = 0
    · subst hk0; have : aheadI (1970 + ((0 : Nat) : Int)) = 0 := by decide
      omega
    · have := hf (k - 1) (by omega)
      rw [show (((k - 1 : Nat) : Int) + 1971) = 1970 + (k : Int) by omega] at this
      simp at this; omega
  have hhi : n < aheadI (1970 + (k : Int) + 1) := by
    by_cases hk9 : k = 1029
    · subst hk9; have : aheadI (1970 + ((1029 : Nat) : Int) + 1) = 376200 := by decide
      omega
    · have := ht k (by omega) (by omega)
      rw [show ((k : Int) + 1971) = 1970 + (k : Int) + 1 by omega] at this
      simpa using this
  have hst := ahead_step (1970 + (k : Int))
  have hlen : n - aheadI (1970 + (k : Int)) < 365 + if leapB (1970 + (k : Int)) = true then 1 else 0 := by omega
  have hlen := Lib.hid hlen
  clear hf ht hst hhi
  go_wp2
  generalize hW : ((w.alloc (.cells #[.int .i64 n] 3)).drewN q).alloc (.cells #[.int .i64 (1970 + (k : Int))] 3) = W
  have c0 : W.cell? ⟨w.heap.size, 0, none⟩ = some (.int .i64 n) := by subst hW; go_simp
  have c1 : W.cell? ⟨w.heap.size + 1, 0, none⟩ = some (.int .i64 (1970 + (k : Int))) := by subst hW; go_simp
  have f0 : W.frozen? ⟨w.heap.size, 0, none⟩ = false := by subst hW; go_simp
  have f1 : W.frozen? ⟨w.heap.size + 1, 0, none⟩ = false := by subst hW; go_simp
  have hb : Below w.heap.size w W := by subst hW; exact (((Below.refl _ _).alloc (Nat.le_refl _) _).drewN q).alloc (by simp) _
  clear hW
  refine wp_region_still_tail 4 (by kernel_rfl) (by kernel_rfl) ?_
  simp only [List.take_succ_cons, List.take_zero, List.drop_succ_cons, List.drop_zero]
  have c0 : (W.drew).cell? ⟨w.heap.size, 0, none⟩ = some (.int .i64 n) := c0
  have c1 : (W.drew).cell? ⟨w.heap.size + 1, 0, none⟩ = some (.int .i64 (1970 + (k : Int))) := c1
  have f0 : (W.drew).frozen? ⟨w.heap.size, 0, none⟩ = false := f0
  have f1 : (W.drew).frozen? ⟨w.heap.size + 1, 0, none⟩ = false := f1
  change wpStill _ _ W.drew _ _ _
  generalize W.drew = W2 at *
  generalize hy : 1970 + (k : Int) = y at *
  still_step
  still_step
  still_call (flip (ahead_q _ (by omega) (by omega) _))
  still_step
  refine wpStill_nil ?_
  go_wp2_with fail
  generalize hW : (W.setCell ⟨w.heap.size, 0, none⟩ (.int .i64 (n - aheadI y))).drew = W3
  have d0 : W3.cell? ⟨w.heap.size, 0, none⟩ = some (.int .i64 (n - aheadI y)) := by subst hW; go_simp
  have d1 : W3.cell? ⟨w.heap.size + 1, 0, none⟩ = some (.int .i64 y) := by subst hW; go_simp
  have hb3 : Below w.heap.size w W3 := by subst hW; exact Below.drew (Below.setCell hb (Nat.le_refl _) _)
  clear hW
  have H2 := search_q 87 #[.pointer (some ⟨w.heap.size + 1, 0, none⟩), .pointer (some ⟨w.heap.size, 0, none⟩)] 11 (fun i => decide (n - aheadI y < goneI y ((i : Int) + 2))) W3 eg_date2 (by omega)
    (fun m i hi => date2_q _ _ y (n - aheadI y) i _ hi d1 d0) (fun a b hab _ h => by have := goneI_mono y ((a : Int) + 2) ((b : Int) + 2) (by omega); simp at h ⊢; omega)
  refine H2.mono ?_
  clear H2
  rintro e w' ⟨⟨j, rfl, hj, hf, ht⟩, q3, rfl⟩
  have hb3 := hb3.drewN q3
  have d0 : (W3.drewN q3).cell? ⟨w.heap.size, 0, none⟩ = some (.int .i64 (n - aheadI y)) := d0
  have d1 : (W3.drewN q3).cell? ⟨w.heap.size + 1, 0, none⟩ = some (.int .i64 y) := d1
  generalize W3.drewN q3 = W4 at *
  have g13 := goneI_13 y
  have hL := hlen.out
  have hlo2 : goneI y (1 + (j : Int)) ≤ n - aheadI y := by
    by_cases hj0 : j = 0
    · subst hj0; have : goneI y (1 + ((0 : Nat) : Int)) = 0 := rfl
      omega
    · have := hf (j - 1) (by omega)
      rw [show (((j - 1 : Nat) : Int) + 2) = 1 + (j : Int) by omega] at this
      simp at this; omega
  have hhi2 : n - aheadI y < goneI y (1 + (j : Int) + 1) := by
    by_cases hj9 : j = 11
    · subst hj9
      rw [show (1 + ((11 : Nat) : Int) + 1) = 13 from rfl, g13]
      exact hL
    · have := ht j (by omega) (by omega)
      rw [show ((j : Int) + 2) = 1 + (j : Int) + 1 by omega] at this
      simpa using this
  rw [goneI_next y (1 + (j : Int)) (by omega)] at hhi2
  have gb := goneI_bd y (1 + (j : Int)) (by omega) (by omega)
  have hD := Lib.hid (show IsDate n y (1 + (j : Int)) (n - aheadI y - goneI y (1 + (j : Int)) + 1) from ⟨by omega, by omega, by omega, by omega, by omega, by omega, by omega⟩)
  clear g13 hL hf ht hhi2 hy hlen H1'
  go_wp2
  go_quiet ((go_at_call 88; exact Calls.quiet_of_same (flip (gone_q _ _ (by omega) (by omega) _))))
  go_wp2
  exact bodyPost_ret (v := .tuple #[.int .i64 y, .int .i64 (1 + (j : Int)), .int .i64 (n - aheadI y - goneI y (1 + (j : Int)) + 1), .int .i64 0]) (by simp [results, Tryz.results48, go_sem]) rfl ⟨_, _, _, hD.out, rfl, hb3.drewN _⟩

def weekI (n : Int) : Int := (n + 4) % 7

theorem week_q (n : Int) (w : World) (h0 : 0 ≤ n) (h1 : n ≤ 376199) :
    Calls Tryz.prog 49 #[.int .i64 n] w fun e w' => e = .returned (.tuple #[.int .i64 (weekI n), .int .i64 0]) ∧ w = w' := by
  go_enter Tryz.func49, Tryz.ntmps49
  go_wp2
  go_ret2
  exact ⟨rfl, rfl⟩

/-- A minute, by the calendar. -/
def OfSaid (t : Int) (w : World) (e : Ending) (w' : World) : Prop :=
  ∃ y m d : Int, IsDate (t / 1440) y m d ∧ e = .returned (.tuple #[.agg #[.int .i64 y, .int .i64 m, .int .i64 d, .int .i64 (t / 60 % 24), .int .i64 (t % 60), .int .i64 (weekI (t / 1440))], .int .i64 0]) ∧ Below w.heap.size w w'

theorem bcell {W w1 : World} (hb : Below W.heap.size W w1) : (∀ b o, b < W.heap.size → w1.cell? ⟨b, o, none⟩ = W.cell? ⟨b, o, none⟩) ∧ (∀ b o, b < W.heap.size → w1.frozen? ⟨b, o, none⟩ = W.frozen? ⟨b, o, none⟩) :=
  ⟨fun b o h => hb.cell (p := ⟨b, o, none⟩) h, fun b o h => hb.frozen (p := ⟨b, o, none⟩) h⟩

theorem of_no (t : Int) (w : World) (h : t < 0 ∨ 541727999 < t) :
    Calls Tryz.prog 19 #[.int .i64 t] w fun e w' => e = .returned (.tuple #[.agg #[.int .i64 0, .int .i64 0, .int .i64 0, .int .i64 0, .int .i64 0, .int .i64 0], .int .i64 1]) ∧ Below w.heap.size w w' := by
  rcases h with h | h
  · go_enter Tryz.func19, Tryz.ntmps19
    go_wp2
    exact bodyPost_ret (v := .tuple #[.agg #[.int .i64 0, .int .i64 0, .int .i64 0, .int .i64 0, .int .i64 0, .int .i64 0], .int .i64 1]) (by simp [results, Tryz.results19, go_sem]) rfl ⟨rfl, (Below.refl _ _).alloc (Nat.le_refl _) _⟩
  · have h' : ¬ t < 0 := by omega
    go_enter Tryz.func19, Tryz.ntmps19
    go_wp2
    exact bodyPost_ret (v := .tuple #[.agg #[.int .i64 0, .int .i64 0, .int .i64 0, .int .i64 0, .int .i64 0, .int .i64 0], .int .i64 1]) (by simp [results, Tryz.results19, go_sem]) rfl ⟨rfl, (Below.refl _ _).alloc (Nat.le_refl _) _⟩

set_option maxRecDepth 100000 in
set_option maxHeartbeats 1000000 in
theorem of_ok (t : Int) (w : World) (h0 : 0 ≤ t) (h1 : t ≤ 541727999) :
    Calls Tryz.prog 19 #[.int .i64 t] w (OfSaid t w) := by
  go_enter Tryz.func19, Tryz.ntmps19
  go_wp2_with fail
  refine (date_ok (t / 1440) _ (by omega) (by omega)).mono ?_
  rintro e w1 ⟨y, m, d, hD, rfl, hb⟩
  have hD := Lib.hid hD
  have hb0 : Below w.heap.size w w1 := ((Below.refl _ _).alloc (Nat.le_refl _) _).trans (hb.mono (by simp))
  obtain ⟨hc, hf⟩ := bcell hb
  have hz : w.heap.size < w1.heap.size := by have := hb.size; simp at this; omega
  go_wp2_with fail
  refine (week_q _ _ (by omega) (by omega)).mono ?_
  rintro e w' ⟨rfl, rfl⟩
  go_wp2
  refine bodyPost_ret (v := .tuple #[.agg #[.int .i64 y, .int .i64 m, .int .i64 d, .int .i64 (t / 60 % 24), .int .i64 (t % 60), .int .i64 (weekI (t / 1440))], .int .i64 0]) (by simp [results, Tryz.results19, go_sem, hc, hz]) rfl ⟨y, m, d, hD.out, rfl, ?_⟩
  (repeat' (first | (with_reducible assumption) | (with_reducible refine Below.setCell ?_ ?_ _) | (with_reducible refine Below.alloc ?_ ?_ _) | (with_reducible refine Below.drew ?_) | (with_reducible refine Below.drewN ?_ _) | (with_reducible exact Below.refl _ _) | (with_reducible exact Nat.le_refl _) | omega | (dsimp only; omega) | (simp; done) | (simp; omega)))

end Go.Proofs.YtkdejfedigiohaaGreatDoor
