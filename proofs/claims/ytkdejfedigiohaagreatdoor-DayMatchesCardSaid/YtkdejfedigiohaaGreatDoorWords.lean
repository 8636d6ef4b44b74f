/- lex.Fields: the words of a text all of whose signs are known. -/
import Derived.Test.YtkdejfedigiohaaGreatDoorLex
import Derived.Test.YtkdejfedigiohaaGreatDoorShelf
import Derived.Test.YtkdejfedigiohaaGreatDoorItem
namespace Go.Proofs.YtkdejfedigiohaaGreatDoor
open Go.RowKit Go.Proofs.YtkdejfedigiohaaGreatDoorW.PrintWords Go.Proofs.YtkdejfedigiohaaGreatDoorW.PrintLast Go.Proofs.YtkdejfedigiohaaGreatDoorW.PrintMore
set_option linter.unusedVariables false
set_option linter.unusedSimpArgs false


def blankI (c : Int) : Bool := c == 32 || c == 9
def knownI (c : Int) : Bool := blankI c || digI c || (decide (97 ≤ c) && decide (c ≤ 122)) || (decide (65 ≤ c) && decide (c ≤ 90)) || c == 42 || c == 44 || c == 45 || c == 47
theorem blank_q (c : Int) (w : World) :
    Calls Tryz.prog 114 #[.int .i32 c] w fun e w' => e = .returned (.bool (blankI c)) ∧ w = w' := by
  unfold blankI
  cases h : c == 32
  all_goals
    go_enter Tryz.func114, Tryz.ntmps114
    go_wp2
    go_ret
    exact ⟨ret_bool (by simp), rfl⟩
theorem known_q (c : Int) (w : World) :
    Calls Tryz.prog 113 #[.int .i32 c] w fun e w' => e = .returned (.bool (knownI c)) ∧ w = w' := by
  have hb := fun w => Lib.hid (blank_q c w)
  have hd := fun w => Lib.hid (digit_q c w)
  unfold knownI
  cases h1 : blankI c
  · rw [h1] at hb
    cases h2 : digI c
    · rw [h2] at hd
      cases h3 : decide (97 ≤ c) <;> cases h4 : decide (c ≤ 122) <;> cases h5 : decide (65 ≤ c) <;> cases h6 : decide (c ≤ 90) <;> (try (exfalso; simp at h3 h4 h5 h6; omega)) <;> cases h7 : c == 42 <;> cases h8 : c == 44 <;> cases h9 : c == 45 <;> cases h10 : c == 47 <;> (try (exfalso; simp at h3 h4 h5 h6 h7 h8 h9 h10; omega))
      all_goals
        go_enter Tryz.func113, Tryz.ntmps113
        go_wp2_with (first | (go_at_call 114; refine (hb _).out.mono ?_; rintro e w' ⟨rfl, rfl⟩) | (go_at_call 136; refine (hd _).out.mono ?_; rintro e w' ⟨rfl, rfl⟩))
        go_ret
        exact ⟨ret_bool (by simp), rfl⟩
    · rw [h2] at hd
      go_enter Tryz.func113, Tryz.ntmps113
      go_wp2_with (first | (go_at_call 114; refine (hb _).out.mono ?_; rintro e w' ⟨rfl, rfl⟩) | (go_at_call 136; refine (hd _).out.mono ?_; rintro e w' ⟨rfl, rfl⟩))
      go_ret
      exact ⟨ret_bool (by simp), rfl⟩
  · rw [h1] at hb
    go_enter Tryz.func113, Tryz.ntmps113
    go_wp2_with (go_at_call 114; refine (hb _).out.mono ?_; rintro e w' ⟨rfl, rfl⟩)
    go_ret
    exact ⟨ret_bool (by simp), rfl⟩

theorem eg_lf1 (args : Array Value) (w : World) : (callFunc 116 args).run Tryz.prog w = .ok (.enter 116 args) w := by kernel_rfl
theorem lf1_q (c : Int) (b : Nat) (W : World) (h : W.cell? ⟨b, 0, none⟩ = some (.func (.func 114) #[] #[])) :
    Calls Tryz.prog 116 #[.int .i32 c, .pointer (some ⟨b, 0, none⟩)] W fun e w' => e = .returned (.bool (blankI c)) ∧ W = w' := by
  go_enter Tryz.func116, Tryz.ntmps116
  go_wp2_with (go_at_call 114; refine (blank_q _ _).mono ?_; rintro e w' ⟨rfl, rfl⟩)
  go_ret
  exact ⟨rfl, rfl⟩

/-- The words of a text. -/
def wordsL (s : ByteArray) : List ByteArray := Lib.goFieldsP (fun x => blankI x) s

set_option maxRecDepth 100000 in
set_option maxHeartbeats 2000000 in
theorem words_ok (s : ByteArray) (w : World) (hs : s.size ≤ 256) (hk : ∀ i (h : i < s.size), s[i].toNat < 128 ∧ knownI (s[i].toNat : Int) = true) (h5 : (wordsL s).length = 5) :
    Calls Tryz.prog 78 #[.string s] w fun e w' => ∃ A, e = .returned (.tuple #[.slice (some ⟨A, 0, none⟩) 5 5, .int .i64 0]) ∧ (∀ j, j < 5 → w'.cell? ⟨A, j, none⟩ = ((wordsL s).map Value.string)[j]?) ∧ A < w'.heap.size ∧ Below w.heap.size w w' := by
  have hs' : (s.size : Int) ≤ 256 := by omega
  have hk := Lib.hid hk
  have h5 := Lib.hid h5
  go_enter Tryz.func78, Tryz.ntmps78
  go_wp2
  go_loopw [5] (fun v w' => ∃ (pos : Nat), w' = w.iter s pos ∧ pos ≤ s.size) (fun _ w' => s.size - w'.iterPos w.heap.size)
  case atStart => exact ⟨0, rfl, by omega⟩
  case round =>
    obtain ⟨pos, rfl, hps⟩ := hrel
    by_cases hp : pos < s.size
    · have hnx : ∀ ty, (Instr.next (.pointer (some ⟨w.heap.size, 0, none⟩)) true ty).run Tryz.prog (w.iter s pos) = _ := fun ty => run_next_any w s pos ty hp
      obtain ⟨ha, hkn⟩ := hk.out pos hp
      rw [decode_ascii s pos hp ha] at hnx
      have hq := known_q (s[pos].toNat : Int)
      rw [hkn] at hq
      have hq := fun w => Lib.hid (hq w)
      clear hkn
      go_wp2_with (go_at_call 113; refine (hq _).out.mono ?_; rintro e w' ⟨rfl, rfl⟩)
      go_roundw
      case rel => exact ⟨pos + 1, rfl, by omega⟩
      case measure => simp; omega
    · have hnx : ∀ ty, (Instr.next (.pointer (some ⟨w.heap.size, 0, none⟩)) true ty).run Tryz.prog (w.iter s pos) = _ := fun ty => run_next_end w s pos ty hp
      have hbW : Below w.heap.size w (w.iter s pos) := (Below.refl _ _).alloc (Nat.le_refl _) _
      have hlW : w.heap.size + 1 = (w.iter s pos).heap.size := by simp [World.iter]
      generalize hW : w.iter s pos = W1 at *
      clear hW
      go_wp2_with fail
      generalize hV : W1.alloc (.cells #[.func (.func 114) #[] #[]] 141) = V
      have hbV : Below w.heap.size w V := hV ▸ hbW.alloc hbW.size _
      have hc : V.cell? ⟨W1.heap.size, 0, none⟩ = some (.func (.func 114) #[] #[]) := by subst hV; go_simp
      have hlt : W1.heap.size < V.heap.size := by subst hV; simp
      clear hV
      have hF : Calls Tryz.prog 115 #[.string s, .func (.func 116) #[] #[.pointer (some ⟨W1.heap.size, 0, none⟩)]] V fun e w' => ∃ A, e = .returned (.slice (some ⟨A, 0, none⟩) 5 5)
          ∧ Hid (∀ j, j < 5 → w'.cell? ⟨A, j, none⟩ = ((wordsL s).map Value.string)[j]?) ∧ A < w'.heap.size ∧ Below V.heap.size V w' := by
        refine (Tryz.strings_FieldsFunc_grows 116 #[.pointer (some ⟨W1.heap.size, 0, none⟩)] eg_lf1 (fun x => blankI x) s V (by omega) ?_).mono ?_
        · intro W x _ hb
          refine (lf1_q x W1.heap.size W ?_).mono ?_
          · exact (hb.cell (p := ⟨W1.heap.size, 0, none⟩) hlt).trans hc
          · rintro e w' ⟨rfl, rfl⟩
            exact ⟨rfl, Below.refl _ _⟩
        · rintro e W2 ⟨A, rfl, hA, hrow, hb2⟩
          rw [show Lib.goFieldsP (fun x : Nat => blankI (x : Int)) s = wordsL s from rfl, h5.out] at hrow ⊢
          have hcl : ∀ j, j < 5 → W2.cell? ⟨A, j, none⟩ = ((wordsL s).map Value.string)[j]? := fun j hj => hrow.cellAt j (by omega)
          have hc0 : W2.cell? ⟨A, 0, none⟩ = some (.string ((wordsL s)[0]'(by rw [h5.out]; decide))) := by rw [hcl 0 (by decide)]; simp
          have hAl : A < W2.heap.size := World.block_lt_of_cell? _ _ hc0
          exact ⟨A, rfl, hcl, hAl, hb2⟩
      refine hF.mono ?_
      clear hF
      rintro e W2 ⟨A, rfl, hcl, hAl, hb2⟩
      go_wp2
      go_ret2
      exact ⟨A, rfl, hcl.out, hAl, hbV.trans (hb2.mono hbV.size)⟩

end Go.Proofs.YtkdejfedigiohaaGreatDoor
