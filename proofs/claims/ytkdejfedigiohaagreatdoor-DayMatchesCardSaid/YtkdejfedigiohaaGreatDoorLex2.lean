/- lex.Value at a text that begins with a digit. -/
import Derived.Test.YtkdejfedigiohaaGreatDoorLex
import Derived.Laws.EntriesVeiled
namespace Go.Proofs.YtkdejfedigiohaaGreatDoor
open Go.RowKit Go.Proofs.YtkdejfedigiohaaGreatDoorW.PrintWords Go.Proofs.YtkdejfedigiohaaGreatDoorW.PrintLast Go.Proofs.YtkdejfedigiohaaGreatDoorW.PrintMore
set_option linter.unusedVariables false
set_option linter.unusedSimpArgs false

theorem eg_val1 (args : Array Value) (w : World) : (callFunc 134 args).run Tryz.prog w = .ok (.enter 134 args) w := by kernel_rfl
theorem eg_val2 (args : Array Value) (w : World) : (callFunc 137 args).run Tryz.prog w = .ok (.enter 137 args) w := by kernel_rfl

/-- A number as a value of a kind. -/
def rangeI (kind : Int) (p : Int × Int) : Int × Int := if p.2 = 0 ∧ (p.1 < lexLo kind ∨ lexHi kind < p.1) then (0, 1) else p

set_option maxRecDepth 100000 in
set_option maxHeartbeats 2000000 in
theorem val2_any (s : ByteArray) (b : Nat) (W : World) (hs : W.cell? ⟨b, 0, none⟩ = some (.string s)) :
    Calls Tryz.prog 137 #[.pointer (some ⟨b, 0, none⟩)] W fun e w' => e = .returned (.tuple #[.int .i64 (numL s.data.toList).1, .int .i64 (numL s.data.toList).2]) ∧ Below W.heap.size W w' := by
  go_enter Tryz.func137, Tryz.ntmps137
  go_wp2_with fail
  refine (number_any s _).mono ?_
  rintro e w1 ⟨rfl, hb⟩
  go_wp2
  go_ret2
  exact ⟨rfl, hb⟩

set_option maxRecDepth 100000 in
set_option maxHeartbeats 2000000 in
theorem value_dig (s : ByteArray) (kind : Int) (w : World) (h0 : 0 ≤ kind) (h1 : kind ≤ 4) (hs : 0 < s.size) (hd : digI (s[0].toNat : Int) = true) :
    Calls Tryz.prog 109 #[.string s, .int .i64 kind] w fun e w' => e = .returned (.tuple #[.int .i64 (rangeI kind (numL s.data.toList)).1, .int .i64 (rangeI kind (numL s.data.toList)).2]) ∧ Below w.heap.size w w' := by
  have h2 : s.toList.isEmpty = false := by
    rw [ByteArray.toList_eq]
    cases h : s.data.toList with
    | nil => exact absurd (show s.data.toList.length = 0 by rw [h]; rfl) (by rw [size_toList]; omega)
    | cons a l => rfl
  have hq := digit_q (s[0].toNat : Int)
  rw [hd] at hq
  have hq := fun w => Lib.hid (hq w)
  have hv := fun W b k => Lib.hid (val2_any s b W k)
  have hR : Hid (∀ n e, numL s.data.toList = (n, e) → rangeI kind (numL s.data.toList) = if e = 0 ∧ (n < lexLo kind ∨ lexHi kind < n) then (0, 1) else (n, e)) := fun n e h => by rw [h]; rfl
  generalize hN : rangeI kind (numL s.data.toList) = R at hR ⊢
  generalize hM : numL s.data.toList = M at hR hv
  obtain ⟨n, er⟩ := M
  have hR := hR.out n er rfl
  have hRH := Lib.hid hR
  clear hR hN hM
  have e1 := eg_val2
  have hw32 : wrap32 (s[0].toNat : Int) = s[0].toNat := by
    have := s[0].toNat_lt
    unfold wrap32; omega
  clear hd
  go_enter Tryz.func109, Tryz.ntmps109
  go_wp2_with fail
  refine (limits_q kind _ h0 h1).mono ?_
  rintro e w1 ⟨rfl, rfl⟩
  go_wp2_with fail
  refine (hq _).out.mono ?_
  rintro e w1 ⟨rfl, rfl⟩
  go_wp2_with fail
  refine (hv _ _ (by go_simp)).out.mono ?_
  rintro e w1 ⟨rfl, hb⟩
  have hb0 : Below w.heap.size w w1 := ((Below.refl _ _).alloc (Nat.le_refl _) _).alloc (by simp) _ |>.trans (hb.mono (by simp; omega))
  clear hb
  by_cases he : er = 0
  · subst he
    by_cases hlo : n < lexLo kind
    · have hR2 := Lib.hid (show R = (0, 1) by rw [hRH.out, if_pos ⟨rfl, .inl hlo⟩])
      clear hRH hR
      go_wp2
      go_ret2
      exact ⟨by rw [hR2.out]; rfl, hb0⟩
    · by_cases hhi : lexHi kind < n
      · have hR2 := Lib.hid (show R = (0, 1) by rw [hRH.out, if_pos ⟨rfl, .inr hhi⟩])
        clear hRH hR
        go_wp2
        go_ret2
        exact ⟨by rw [hR2.out]; rfl, hb0⟩
      · have hR2 := Lib.hid (show R = (n, 0) by rw [hRH.out, if_neg (fun h => by rcases h.2 with h | h <;> omega)])
        clear hRH hR
        go_wp2
        go_ret2
        exact ⟨by rw [hR2.out]; rfl, hb0⟩
  · have heb : (er == 0) = false := by simpa using he
    have hR2 := Lib.hid (show R = (n, er) by rw [hRH.out, if_neg (fun h => he h.1)])
    clear he
    clear hRH hR
    go_wp2
    go_ret2
    exact ⟨by rw [hR2.out]; rfl, hb0⟩

end Go.Proofs.YtkdejfedigiohaaGreatDoor
