/- lex.Fields where something is wrong. spec.Parse at whatever text. -/
import Derived.Test.YtkdejfedigiohaaGreatDoorQE
import Derived.Test.YtkdejfedigiohaaGreatDoorQA
import Derived.Test.YtkdejfedigiohaaGreatDoorQG
import Derived.Test.YtkdejfedigiohaaGreatDoorQB
/- lex.Fields where something is wrong. -/
namespace Go.Proofs.YtkdejfedigiohaaGreatDoor
open Go.RowKit Go.Proofs.YtkdejfedigiohaaGreatDoorW.PrintWords Go.Proofs.YtkdejfedigiohaaGreatDoorW.PrintLast Go.Proofs.YtkdejfedigiohaaGreatDoorW.PrintMore
set_option linter.unusedVariables false
set_option linter.unusedSimpArgs false


theorem known_high (r : Nat) (h : 128 ≤ r) : knownI (r : Int) = false := by
  unfold knownI blankI digI
  simp
  omega

set_option maxRecDepth 100000 in
set_option maxHeartbeats 2000000 in
theorem words_long (s : ByteArray) (w : World) (hs : 256 < s.size) :
    Calls Tryz.prog 78 #[.string s] w fun e w' => e = .returned (.tuple #[.slice none 0 0, .int .i64 3]) ∧ Below w.heap.size w w' := by
  have hs' : (256 : Int) < (s.size : Int) := by omega
  go_enter Tryz.func78, Tryz.ntmps78
  go_wp2
  go_ret2
  exact ⟨rfl, Below.refl _ _⟩

set_option maxRecDepth 100000 in
set_option maxHeartbeats 2000000 in
theorem words_form (s : ByteArray) (w : World) (hs : s.size ≤ 256) (q : Nat) (hq : q < s.size) (hok : ∀ i (h : i < s.size), i < q → s[i].toNat < 128 ∧ knownI (s[i].toNat : Int) = true) (hbad : ¬ (s[q].toNat < 128 ∧ knownI (s[q].toNat : Int) = true)) :
    Calls Tryz.prog 78 #[.string s] w fun e w' => e = .returned (.tuple #[.slice none 0 0, .int .i64 2]) ∧ Below w.heap.size w w' := by
  have hs' : (s.size : Int) ≤ 256 := by omega
  have hokH := Lib.hid hok
  have hbadH := Lib.hid hbad
  clear hok hbad
  go_enter Tryz.func78, Tryz.ntmps78
  go_wp2
  go_loopw [5] (fun v w' => ∃ (pos : Nat), w' = w.iter s pos ∧ pos ≤ q) (fun _ w' => s.size - w'.iterPos w.heap.size)
  case atStart => exact ⟨0, rfl, by omega⟩
  case round =>
    obtain ⟨pos, rfl, hps⟩ := hrel
    have hp : pos < s.size := by omega
    have hnx : ∀ ty, (Instr.next (.pointer (some ⟨w.heap.size, 0, none⟩)) true ty).run Tryz.prog (w.iter s pos) = _ := fun ty => run_next_any w s pos ty hp
    by_cases hpq : pos < q
    · obtain ⟨ha, hkn⟩ := hokH.out pos hp hpq
      rw [decode_ascii s pos hp ha] at hnx
      have hq := known_q (s[pos].toNat : Int)
      rw [hkn] at hq
      have hq := fun w => Lib.hid (hq w)
      clear hkn
      go_wp2_with (go_at_call 113; refine (hq _).out.mono ?_; rintro e w' ⟨rfl, rfl⟩)
      go_roundw
      case rel => exact ⟨pos + 1, rfl, by omega⟩
      case measure => simp; omega
    · obtain rfl : pos = q := by omega
      have hkn : knownI ((Utf8.decode s pos).1 : Int) = false := by
        by_cases ha : s[pos].toNat < 128
        · rw [decode_ascii s pos hp ha]
          have := hbadH.out
          simp only [not_and, Bool.not_eq_true] at this
          exact this ha
        · exact known_high _ (decode_high s pos hp (by omega)).1
      have hq := known_q ((Utf8.decode s pos).1 : Int)
      rw [hkn] at hq
      have hq := fun w => Lib.hid (hq w)
      clear hkn
      generalize Utf8.decode s pos = d at *
      have hB : Below w.heap.size w (w.iter s (pos + d.2)) := (Below.refl _ _).alloc (Nat.le_refl _) _
      go_wp2_with (go_at_call 113; refine (hq _).out.mono ?_; rintro e w' ⟨rfl, rfl⟩)
      go_ret2
      exact ⟨rfl, hB⟩

set_option maxRecDepth 100000 in
set_option maxHeartbeats 2000000 in
theorem words_count (s : ByteArray) (w : World) (hs : s.size ≤ 256) (hk : ∀ i (h : i < s.size), s[i].toNat < 128 ∧ knownI (s[i].toNat : Int) = true) (h5 : (wordsL s).length ≠ 5) :
    Calls Tryz.prog 78 #[.string s] w fun e w' => e = .returned (.tuple #[.slice none 0 0, .int .i64 2]) ∧ Below w.heap.size w w' := by
  have hs' : (s.size : Int) ≤ 256 := by omega
  have hk := Lib.hid hk
  have h5 : ((((wordsL s).length : Nat) : Int) != 5) = true := by simp; omega
  go_enter Tryz.func78, Tryz.ntmps78
  go_wp2
  go_loopw [5] (fun v w' => ∃ (pos : Nat), w' = w.iter s pos ∧ pos ≤ s.size) (fun _ w' => s.size - w'.iterPos w.heap.size)
  case atStart => exact ⟨0, rfl, by omega⟩
  case round =>
    obtain ⟨pos, rfl, hps⟩ := hrel
    by_cases hp : pos < s.size
    · have hnx : ∀ ty, (Instr.next (.pointer (some ⟨w.heap.size, 0, none⟩)) true ty).run Tryz.prog (w.iter s pos) = _ := fun ty => run_next_any w s pos ty hp
      obtain ⟨ha, hkn⟩ := hk.out pos hp
      rw [decode_ascii s pos hp ha] at hnx
      have hq := known_q (s[pos].toNat : Int)
      rw [hkn] at hq
      have hq := fun w => Lib.hid (hq w)
      clear hkn
      go_wp2_with (go_at_call 113; refine (hq _).out.mono ?_; rintro e w' ⟨rfl, rfl⟩)
      go_roundw
      case rel => exact ⟨pos + 1, rfl, by omega⟩
      case measure => simp; omega
    · have hnx : ∀ ty, (Instr.next (.pointer (some ⟨w.heap.size, 0, none⟩)) true ty).run Tryz.prog (w.iter s pos) = _ := fun ty => run_next_end w s pos ty hp
      have hbW : Below w.heap.size w (w.iter s pos) := (Below.refl _ _).alloc (Nat.le_refl _) _
      have hlW : w.heap.size + 1 = (w.iter s pos).heap.size := by simp [World.iter]
      generalize hW : w.iter s pos = W1 at *
      clear hW
      go_wp2_with fail
      generalize hV : W1.alloc (.cells #[.func (.func 114) #[] #[]] 141) = V
      have hbV : Below w.heap.size w V := hV ▸ hbW.alloc hbW.size _
      have hc : V.cell? ⟨W1.heap.size, 0, none⟩ = some (.func (.func 114) #[] #[]) := by subst hV; go_simp
      have hlt : W1.heap.size < V.heap.size := by subst hV; simp
      clear hV
      have hF : Calls Tryz.prog 115 #[.string s, .func (.func 116) #[] #[.pointer (some ⟨W1.heap.size, 0, none⟩)]] V fun e w' => ∃ A, e = .returned (.slice (some ⟨A, 0, none⟩) (wordsL s).length (wordsL s).length)
          ∧ Below V.heap.size V w' := by
        refine (Tryz.strings_FieldsFunc_grows 116 #[.pointer (some ⟨W1.heap.size, 0, none⟩)] eg_lf1 (fun x => blankI x) s V (by omega) ?_).mono ?_
        · intro W x _ hb
          refine (lf1_q x W1.heap.size W ?_).mono ?_
          · exact (hb.cell (p := ⟨W1.heap.size, 0, none⟩) hlt).trans hc
          · rintro e w' ⟨rfl, rfl⟩
            exact ⟨rfl, Below.refl _ _⟩
        · rintro e W2 ⟨A, rfl, hA, hrow, hb2⟩
          exact ⟨A, rfl, hb2⟩
      refine hF.mono ?_
      clear hF
      generalize (wordsL s).length = nw at *
      rintro e W2 ⟨A, rfl, hb2⟩
      go_wp2
      go_ret2
      exact ⟨rfl, hbV.trans (hb2.mono hbV.size)⟩

end Go.Proofs.YtkdejfedigiohaaGreatDoor

/- spec.Parse at whatever text. -/
namespace Go.Proofs.YtkdejfedigiohaaGreatDoor
open Go.RowKit Go.Proofs.YtkdejfedigiohaaGreatDoorW.PrintWords Go.Proofs.YtkdejfedigiohaaGreatDoorW.PrintLast Go.Proofs.YtkdejfedigiohaaGreatDoorW.PrintMore
set_option linter.unusedVariables false
set_option linter.unusedSimpArgs false


/-- What field.Parse answers at t. -/
def FP (t : ByteArray) (kind : Int) (v : Int) (s : Bool) (e : Int) : Prop :=
  ∀ W : World, Env W → ErrV W → 8 ≤ W.heap.size → Calls Tryz.prog 33 #[.string t, .int .i64 kind] W fun r w' => r = .returned (.tuple #[.agg #[.int .u64 v, .bool s], .int .i64 e]) ∧ Below W.heap.size W w'

set_option maxRecDepth 100000 in
set_option maxHeartbeats 2000000 in
theorem spec_words (s : ByteArray) (e0 : Int) (w : World) (he : e0 ≠ 0) (hF : ∀ W, Calls Tryz.prog 78 #[.string s] W fun e w' => e = .returned (.tuple #[.slice none 0 0, .int .i64 e0]) ∧ Below W.heap.size W w') :
    Calls Tryz.prog 34 #[.string s] w fun e w' => e = .returned (.tuple #[.agg #[.int .u64 sp0.m.b, .bool sp0.m.s, .int .u64 sp0.h.b, .bool sp0.h.s, .int .u64 sp0.d.b, .bool sp0.d.s, .int .u64 sp0.n.b, .bool sp0.n.s, .int .u64 sp0.w.b, .bool sp0.w.s], .int .i64 0, .int .i64 e0]) ∧ Below w.heap.size w w' := by
  have hF := fun W => Lib.hid (hF W)
  have hne : (e0 != 0) = true := by simpa using he
  clear he
  go_enter Tryz.func34, Tryz.ntmps34
  go_wp2_with fail
  refine (hF _).out.mono ?_
  rintro e w1 ⟨rfl, hb1⟩
  have hr1 : SpB w1 w.heap.size sp0 := blk_below (w := w.alloc (.cells #[.int .u64 sp0.m.b, .bool sp0.m.s, .int .u64 sp0.h.b, .bool sp0.h.s, .int .u64 sp0.d.b, .bool sp0.d.s, .int .u64 sp0.n.b, .bool sp0.n.s, .int .u64 sp0.w.b, .bool sp0.w.s] 26)) (blk_new _ _) hb1
  have hB1 : Below w.heap.size w w1 := ((Below.refl _ _).alloc (Nat.le_refl _) _).trans (hb1.mono (by simp))
  clear hb1 hF
  obtain ⟨d0, d1, d2, d3, d4, d5, d6, d7, d8, d9⟩ := hr1.spIn
  obtain ⟨z0, z1, z2, z3, z4, z5, z6, z7, z8, z9⟩ := hr1.fz
  have hr1H := Lib.hid hr1
  clear hr1
  go_wp2
  have hB9 : Below w.heap.size w ((((((((((w1.setCell ⟨w.heap.size, 0, none⟩ (.int .u64 0)).setCell ⟨w.heap.size, 1, none⟩ (.bool false)).setCell ⟨w.heap.size, 2, none⟩ (.int .u64 0)).setCell ⟨w.heap.size, 3, none⟩ (.bool false)).setCell ⟨w.heap.size, 4, none⟩ (.int .u64 0)).setCell ⟨w.heap.size, 5, none⟩ (.bool false)).setCell ⟨w.heap.size, 6, none⟩ (.int .u64 0)).setCell ⟨w.heap.size, 7, none⟩ (.bool false)).setCell ⟨w.heap.size, 8, none⟩ (.int .u64 0)).setCell ⟨w.heap.size, 9, none⟩ (.bool false)) := ((((((((((hB1.setCell (p := ⟨w.heap.size, 0, none⟩) (Nat.le_refl _) _).setCell (p := ⟨w.heap.size, 1, none⟩) (Nat.le_refl _) _).setCell (p := ⟨w.heap.size, 2, none⟩) (Nat.le_refl _) _).setCell (p := ⟨w.heap.size, 3, none⟩) (Nat.le_refl _) _).setCell (p := ⟨w.heap.size, 4, none⟩) (Nat.le_refl _) _).setCell (p := ⟨w.heap.size, 5, none⟩) (Nat.le_refl _) _).setCell (p := ⟨w.heap.size, 6, none⟩) (Nat.le_refl _) _).setCell (p := ⟨w.heap.size, 7, none⟩) (Nat.le_refl _) _).setCell (p := ⟨w.heap.size, 8, none⟩) (Nat.le_refl _) _).setCell (p := ⟨w.heap.size, 9, none⟩) (Nat.le_refl _) _)
  have hr9 : SpB ((((((((((w1.setCell ⟨w.heap.size, 0, none⟩ (.int .u64 0)).setCell ⟨w.heap.size, 1, none⟩ (.bool false)).setCell ⟨w.heap.size, 2, none⟩ (.int .u64 0)).setCell ⟨w.heap.size, 3, none⟩ (.bool false)).setCell ⟨w.heap.size, 4, none⟩ (.int .u64 0)).setCell ⟨w.heap.size, 5, none⟩ (.bool false)).setCell ⟨w.heap.size, 6, none⟩ (.int .u64 0)).setCell ⟨w.heap.size, 7, none⟩ (.bool false)).setCell ⟨w.heap.size, 8, none⟩ (.int .u64 0)).setCell ⟨w.heap.size, 9, none⟩ (.bool false)) w.heap.size sp0 := (((((hr1H.out.put0 0 false).put1 0 false).put2 0 false).put3 0 false).put4 0 false)
  clear d0 d1 d2 d3 d4 d5 d6 d7 d8 d9 z0 z1 z2 z3 z4 z5 z6 z7 z8 z9
  generalize ((((((((((w1.setCell ⟨w.heap.size, 0, none⟩ (.int .u64 0)).setCell ⟨w.heap.size, 1, none⟩ (.bool false)).setCell ⟨w.heap.size, 2, none⟩ (.int .u64 0)).setCell ⟨w.heap.size, 3, none⟩ (.bool false)).setCell ⟨w.heap.size, 4, none⟩ (.int .u64 0)).setCell ⟨w.heap.size, 5, none⟩ (.bool false)).setCell ⟨w.heap.size, 6, none⟩ (.int .u64 0)).setCell ⟨w.heap.size, 7, none⟩ (.bool false)).setCell ⟨w.heap.size, 8, none⟩ (.int .u64 0)).setCell ⟨w.heap.size, 9, none⟩ (.bool false)) = w9 at *
  obtain ⟨c0, c1, c2, c3, c4, c5, c6, c7, c8, c9⟩ := hr9.spIn
  refine bodyPost_ret (v := .tuple #[.agg #[.int .u64 sp0.m.b, .bool sp0.m.s, .int .u64 sp0.h.b, .bool sp0.h.s, .int .u64 sp0.d.b, .bool sp0.d.s, .int .u64 sp0.n.b, .bool sp0.n.s, .int .u64 sp0.w.b, .bool sp0.w.s], .int .i64 0, .int .i64 e0]) (by simp [results, Tryz.results34, go_sem, c0, c1, c2, c3, c4, c5, c6, c7, c8, c9]) rfl ⟨rfl, hB9⟩

set_option maxRecDepth 100000 in
set_option maxHeartbeats 2000000 in
theorem spec_fine (s : ByteArray) (w : World) (t0 t1 t2 t3 t4 : ByteArray) (s0 s1 s2 s3 s4 : Bool) (v0 v1 v2 v3 v4 : Int) (hE : Env w) (hEr : ErrV w) (h8 : 8 ≤ w.heap.size) (hs : s.size ≤ 256)
    (hk : ∀ i (h : i < s.size), s[i].toNat < 128 ∧ knownI (s[i].toNat : Int) = true) (hw : wordsL s = [t0, t1, t2, t3, t4])
    (p0 : FP t0 0 v0 s0 0) (p1 : FP t1 1 v1 s1 0) (p2 : FP t2 2 v2 s2 0) (p3 : FP t3 3 v3 s3 0) (p4 : FP t4 4 v4 s4 0) :
    Calls Tryz.prog 34 #[.string s] w fun e w' => e = .returned (.tuple #[.agg #[.int .u64 v0, .bool s0, .int .u64 v1, .bool s1, .int .u64 v2, .bool s2, .int .u64 v3, .bool s3, .int .u64 v4, .bool s4], .int .i64 0, .int .i64 0])
      ∧ Below w.heap.size w w' := by
  have hwo := fun W => Lib.hid (words_ok s W hs hk (by rw [hw]; rfl))
  have hw := Lib.hid hw
  clear hk
  have hErH := Lib.hid hEr
  clear hEr
  go_enter Tryz.func34, Tryz.ntmps34
  go_wp2_with fail
  refine (hwo _).out.mono ?_
  clear hwo
  rintro e w1 ⟨A, rfl, hcA, hlA, hb1⟩
  rw [hw.out] at hcA
  have hcB := Lib.hid hcA
  clear hcA
  have hr1 : SpB w1 w.heap.size sp0 := blk_below (w := w.alloc (.cells #[.int .u64 sp0.m.b, .bool sp0.m.s, .int .u64 sp0.h.b, .bool sp0.h.s, .int .u64 sp0.d.b, .bool sp0.d.s, .int .u64 sp0.n.b, .bool sp0.n.s, .int .u64 sp0.w.b, .bool sp0.w.s] 26)) (blk_new _ _) hb1
  have hB1 : Below w.heap.size w w1 := ((Below.refl _ _).alloc (Nat.le_refl _) _).trans (hb1.mono (by simp))
  have hlt1 := blk_lt hr1
  clear hb1
  go_wp2_with fail
  refine (fields_any _ _).mono ?_
  rintro e w2 ⟨rfl, hc, hsz, hb2⟩
  have hI : SpI w A w1.heap.size (w1.heap.size + 1) [t0, t1, t2, t3, t4] sp0 w2 := by
    have hb : Below w1.heap.size w1 (w1.alloc (.cells #[.int .u64 sp0.m.b, .bool sp0.m.s, .int .u64 sp0.h.b, .bool sp0.h.s, .int .u64 sp0.d.b, .bool sp0.d.s, .int .u64 sp0.n.b, .bool sp0.n.s, .int .u64 sp0.w.b, .bool sp0.w.s] 26)) := (Below.refl _ _).alloc (Nat.le_refl _) _
    have hb3 : Below w1.heap.size w1 w2 := hb.trans (hb2.mono (by simp))
    refine ⟨hB1.trans (hb3.mono hB1.size), blk_below hr1 hb3, blk_below (w := w1.alloc (.cells #[.int .u64 sp0.m.b, .bool sp0.m.s, .int .u64 sp0.h.b, .bool sp0.h.s, .int .u64 sp0.d.b, .bool sp0.d.s, .int .u64 sp0.n.b, .bool sp0.n.s, .int .u64 sp0.w.b, .bool sp0.w.s] 26)) (blk_new _ _) hb2, ?_, fun j hj => (hb3.cell (p := ⟨A, j, none⟩) hlA).trans (hcB.out j hj),
      (hE.below hB1).below hb3, by have := hb3.size; omega, hlt1, by omega, by omega, by omega, by have := hb3.size; omega, by simp at hsz; omega⟩
    simpa only [World.size_alloc] using hc
  simp only [World.size_alloc]
  clear hb2 hsz hc hcB hlA hr1 hB1 hlt1
  generalize w1.heap.size + 1 = cb at *
  generalize w1.heap.size = xb at *
  clear w1
  go_wp2_with fail
  refine wp_loop_rounds 6 ?_
  -- round 0
  rw [rounds_succ]
  have ix := sfi0
  have wk : w2.cell? ⟨A, 0, none⟩ = some (.string t0) := hI.ws 0 (by decide)
  go_wp2_with fail
  refine (p0 w2 hI.env (hErH.out.on hI.below) hI.g8).mono ?_
  rintro e w3 ⟨rfl, hb3⟩
  clear wk
  go_wp2
  generalize hW : w3.alloc (.cells #[.int .u64 v0, .bool s0] 24) = w4
  have hI4 : SpI w A xb cb [t0, t1, t2, t3, t4] _ w4 := hW ▸ (hI.on hb3).on ((Below.refl _ _).alloc (Nat.le_refl _) _)
  have q0 : w4.cell? ⟨w3.heap.size, 0, none⟩ = some (.int .u64 v0) := by subst hW; go_simp
  have q1 : w4.cell? ⟨w3.heap.size, 1, none⟩ = some (.bool s0) := by subst hW; go_simp
  have hcb : w4.drew.cell? ⟨cb, 0, none⟩ = some (.pointer (some ⟨xb, 0, none⟩)) := hI4.c
  have x0 := blk_cell hI4.x 0
  have x1 := blk_cell hI4.x 1
  have z0 := blk_frozen hI4.x 0
  have z1 := blk_frozen hI4.x 1
  simp only [List.getElem?_toArray, List.getElem?_cons_succ, List.getElem?_cons_zero] at x0 x1
  clear hI hb3 hW ix
  refine start_ (n := 5) (S := fun w' => w'.cell? ⟨w3.heap.size, 0, none⟩ = some (.int .u64 v0) ∧ w'.cell? ⟨w3.heap.size, 1, none⟩ = some (.bool s0)) (ds := [4]) #[false, false, false, false, false] (by kernel_rfl) rfl rfl ⟨q0, q1⟩ (fun hHeld => ?_)
  refine pure_ (i := 0) (N := some 41) (v := ?_) (a' := ?_) #[true, false, false, false, false] rfl rfl (by kernel_rfl) (fun _ _ _ h => h) (Or.inl ⟨by rfl, ?_⟩) ?_ ?_
  rotate_left
  · intro w'
    go_simp
    with_reducible rfl
  rotate_left
  · simp only [Act.put, List.setIfInBounds_toArray, List.set_cons_zero, List.set_cons_succ, i64_w, i32_w]
    rfl
  refine take_ (i := 2) (N := some 43) (v := ?_) (a' := ?_) #[true, false, true, false, false] rfl rfl (by kernel_rfl) (fun _ _ _ h => h) (Or.inl ⟨by rfl, ?_⟩) hHeld ?_ ?_
  rotate_left
  · rintro w' ⟨s0, s1⟩
    go_simp
    with_reducible rfl
  rotate_left
  · simp only [Act.put, List.setIfInBounds_toArray, List.set_cons_zero, List.set_cons_succ, i64_w, i32_w]
    rfl
  refine one_ (i := 1) (N := some 42) #[true, true, true, false, false] rfl rfl (by kernel_rfl) (by decide) (fun K hK => ?_)
  refine call_ (89) #[.pointer (some ⟨cb, 0, none⟩)] (by rfl) rfl ?_ ?_
  · have he := eg_sf1
    go_simp
  with_reducible refine (sfl0 ⟨cb, 0, none⟩ xb _ hcb).mono ?_
  rintro e w5 ⟨rfl, rfl⟩
  refine ⟨_, rfl, ?_⟩
  refine hK.out _ _ ⟨q0, q1⟩ (fun hHeld => ?_)
  clear hK K
  refine norm_ (a' := ?_) ?_ ?_
  rotate_left
  · show Act.put _ (some 42) _ = _
    simp only [Act.put, List.setIfInBounds_toArray, List.set_cons_zero, List.set_cons_succ, i64_w, i32_w]
    rfl
  refine pure_ (i := 3) (N := some 44) (v := ?_) (a' := ?_) #[true, true, true, true, false] rfl rfl (by kernel_rfl) (fun _ _ _ h => h) (Or.inl ⟨by rfl, ?_⟩) ?_ ?_
  rotate_left
  · intro w'
    go_simp
    with_reducible rfl
  rotate_left
  · simp only [Act.put, List.setIfInBounds_toArray, List.set_cons_zero, List.set_cons_succ, i64_w, i32_w]
    rfl
  refine last_ (i := 4) (N := none) #[true, true, true, true, true] rfl rfl (by kernel_rfl) (by decide) (fun K hK => ?_)
  refine skip_ (w1 := ?_) (by rfl) rfl ?_ ?_
  rotate_left
  · go_simp
    rfl
  refine hK.out _ _ ?_
  clear hK K
  refine done_ (by kernel_rfl) ?_

  have hI5 := (hI4.put 0 1 _ _ (hI4.x.put0 v0 s0)).on (Below.drew (Below.refl _ _))
  clear hI4 q0 q1 hcb x0 x1 z0 z1 hHeld
  go_wp2_with fail
  generalize ((w4.setCell ⟨xb, 0, none⟩ _).setCell ⟨xb, 1, none⟩ _).drew = w2 at hI5 ⊢
  have hI := hI5
  clear hI5
  -- round 1
  rw [rounds_succ]
  have ix := sfi1
  have wk : w2.cell? ⟨A, 1, none⟩ = some (.string t1) := hI.ws 1 (by decide)
  go_wp2_with fail
  refine (p1 w2 hI.env (hErH.out.on hI.below) hI.g8).mono ?_
  rintro e w3 ⟨rfl, hb3⟩
  clear wk
  go_wp2
  generalize hW : w3.alloc (.cells #[.int .u64 v1, .bool s1] 24) = w4
  have hI4 : SpI w A xb cb [t0, t1, t2, t3, t4] _ w4 := hW ▸ (hI.on hb3).on ((Below.refl _ _).alloc (Nat.le_refl _) _)
  have q0 : w4.cell? ⟨w3.heap.size, 0, none⟩ = some (.int .u64 v1) := by subst hW; go_simp
  have q1 : w4.cell? ⟨w3.heap.size, 1, none⟩ = some (.bool s1) := by subst hW; go_simp
  have hcb : w4.drew.cell? ⟨cb, 0, none⟩ = some (.pointer (some ⟨xb, 0, none⟩)) := hI4.c
  have x0 := blk_cell hI4.x 2
  have x1 := blk_cell hI4.x 3
  have z0 := blk_frozen hI4.x 2
  have z1 := blk_frozen hI4.x 3
  simp only [List.getElem?_toArray, List.getElem?_cons_succ, List.getElem?_cons_zero] at x0 x1
  clear hI hb3 hW ix
  refine start_ (n := 5) (S := fun w' => w'.cell? ⟨w3.heap.size, 0, none⟩ = some (.int .u64 v1) ∧ w'.cell? ⟨w3.heap.size, 1, none⟩ = some (.bool s1)) (ds := [4]) #[false, false, false, false, false] (by kernel_rfl) rfl rfl ⟨q0, q1⟩ (fun hHeld => ?_)
  refine pure_ (i := 0) (N := some 41) (v := ?_) (a' := ?_) #[true, false, false, false, false] rfl rfl (by kernel_rfl) (fun _ _ _ h => h) (Or.inl ⟨by rfl, ?_⟩) ?_ ?_
  rotate_left
  · intro w'
    go_simp
    with_reducible rfl
  rotate_left
  · simp only [Act.put, List.setIfInBounds_toArray, List.set_cons_zero, List.set_cons_succ, i64_w, i32_w]
    rfl
  refine take_ (i := 2) (N := some 43) (v := ?_) (a' := ?_) #[true, false, true, false, false] rfl rfl (by kernel_rfl) (fun _ _ _ h => h) (Or.inl ⟨by rfl, ?_⟩) hHeld ?_ ?_
  rotate_left
  · rintro w' ⟨s0, s1⟩
    go_simp
    with_reducible rfl
  rotate_left
  · simp only [Act.put, List.setIfInBounds_toArray, List.set_cons_zero, List.set_cons_succ, i64_w, i32_w]
    rfl
  refine one_ (i := 1) (N := some 42) #[true, true, true, false, false] rfl rfl (by kernel_rfl) (by decide) (fun K hK => ?_)
  refine call_ (90) #[.pointer (some ⟨cb, 0, none⟩)] (by rfl) rfl ?_ ?_
  · have he := eg_sf2
    go_simp
  with_reducible refine (sfl1 ⟨cb, 0, none⟩ xb _ hcb).mono ?_
  rintro e w5 ⟨rfl, rfl⟩
  refine ⟨_, rfl, ?_⟩
  refine hK.out _ _ ⟨q0, q1⟩ (fun hHeld => ?_)
  clear hK K
  refine norm_ (a' := ?_) ?_ ?_
  rotate_left
  · show Act.put _ (some 42) _ = _
    simp only [Act.put, List.setIfInBounds_toArray, List.set_cons_zero, List.set_cons_succ, i64_w, i32_w]
    rfl
  refine pure_ (i := 3) (N := some 44) (v := ?_) (a' := ?_) #[true, true, true, true, false] rfl rfl (by kernel_rfl) (fun _ _ _ h => h) (Or.inl ⟨by rfl, ?_⟩) ?_ ?_
  rotate_left
  · intro w'
    go_simp
    with_reducible rfl
  rotate_left
  · simp only [Act.put, List.setIfInBounds_toArray, List.set_cons_zero, List.set_cons_succ, i64_w, i32_w]
    rfl
  refine last_ (i := 4) (N := none) #[true, true, true, true, true] rfl rfl (by kernel_rfl) (by decide) (fun K hK => ?_)
  refine skip_ (w1 := ?_) (by rfl) rfl ?_ ?_
  rotate_left
  · go_simp
    rfl
  refine hK.out _ _ ?_
  clear hK K
  refine done_ (by kernel_rfl) ?_

  have hI5 := (hI4.put 2 3 _ _ (hI4.x.put1 v1 s1)).on (Below.drew (Below.refl _ _))
  clear hI4 q0 q1 hcb x0 x1 z0 z1 hHeld
  go_wp2_with fail
  generalize ((w4.setCell ⟨xb, 2, none⟩ _).setCell ⟨xb, 3, none⟩ _).drew = w2 at hI5 ⊢
  have hI := hI5
  clear hI5
  -- round 2
  rw [rounds_succ]
  have ix := sfi2
  have wk : w2.cell? ⟨A, 2, none⟩ = some (.string t2) := hI.ws 2 (by decide)
  go_wp2_with fail
  refine (p2 w2 hI.env (hErH.out.on hI.below) hI.g8).mono ?_
  rintro e w3 ⟨rfl, hb3⟩
  clear wk
  go_wp2
  generalize hW : w3.alloc (.cells #[.int .u64 v2, .bool s2] 24) = w4
  have hI4 : SpI w A xb cb [t0, t1, t2, t3, t4] _ w4 := hW ▸ (hI.on hb3).on ((Below.refl _ _).alloc (Nat.le_refl _) _)
  have q0 : w4.cell? ⟨w3.heap.size, 0, none⟩ = some (.int .u64 v2) := by subst hW; go_simp
  have q1 : w4.cell? ⟨w3.heap.size, 1, none⟩ = some (.bool s2) := by subst hW; go_simp
  have hcb : w4.drew.cell? ⟨cb, 0, none⟩ = some (.pointer (some ⟨xb, 0, none⟩)) := hI4.c
  have x0 := blk_cell hI4.x 4
  have x1 := blk_cell hI4.x 5
  have z0 := blk_frozen hI4.x 4
  have z1 := blk_frozen hI4.x 5
  simp only [List.getElem?_toArray, List.getElem?_cons_succ, List.getElem?_cons_zero] at x0 x1
  clear hI hb3 hW ix
  refine start_ (n := 5) (S := fun w' => w'.cell? ⟨w3.heap.size, 0, none⟩ = some (.int .u64 v2) ∧ w'.cell? ⟨w3.heap.size, 1, none⟩ = some (.bool s2)) (ds := [4]) #[false, false, false, false, false] (by kernel_rfl) rfl rfl ⟨q0, q1⟩ (fun hHeld => ?_)
  refine pure_ (i := 0) (N := some 41) (v := ?_) (a' := ?_) #[true, false, false, false, false] rfl rfl (by kernel_rfl) (fun _ _ _ h => h) (Or.inl ⟨by rfl, ?_⟩) ?_ ?_
  rotate_left
  · intro w'
    go_simp
    with_reducible rfl
  rotate_left
  · simp only [Act.put, List.setIfInBounds_toArray, List.set_cons_zero, List.set_cons_succ, i64_w, i32_w]
    rfl
  refine take_ (i := 2) (N := some 43) (v := ?_) (a' := ?_) #[true, false, true, false, false] rfl rfl (by kernel_rfl) (fun _ _ _ h => h) (Or.inl ⟨by rfl, ?_⟩) hHeld ?_ ?_
  rotate_left
  · rintro w' ⟨s0, s1⟩
    go_simp
    with_reducible rfl
  rotate_left
  · simp only [Act.put, List.setIfInBounds_toArray, List.set_cons_zero, List.set_cons_succ, i64_w, i32_w]
    rfl
  refine one_ (i := 1) (N := some 42) #[true, true, true, false, false] rfl rfl (by kernel_rfl) (by decide) (fun K hK => ?_)
  refine call_ (91) #[.pointer (some ⟨cb, 0, none⟩)] (by rfl) rfl ?_ ?_
  · have he := eg_sf3
    go_simp
  with_reducible refine (sfl2 ⟨cb, 0, none⟩ xb _ hcb).mono ?_
  rintro e w5 ⟨rfl, rfl⟩
  refine ⟨_, rfl, ?_⟩
  refine hK.out _ _ ⟨q0, q1⟩ (fun hHeld => ?_)
  clear hK K
  refine norm_ (a' := ?_) ?_ ?_
  rotate_left
  · show Act.put _ (some 42) _ = _
    simp only [Act.put, List.setIfInBounds_toArray, List.set_cons_zero, List.set_cons_succ, i64_w, i32_w]
    rfl
  refine pure_ (i := 3) (N := some 44) (v := ?_) (a' := ?_) #[true, true, true, true, false] rfl rfl (by kernel_rfl) (fun _ _ _ h => h) (Or.inl ⟨by rfl, ?_⟩) ?_ ?_
  rotate_left
  · intro w'
    go_simp
    with_reducible rfl
  rotate_left
  · simp only [Act.put, List.setIfInBounds_toArray, List.set_cons_zero, List.set_cons_succ, i64_w, i32_w]
    rfl
  refine last_ (i := 4) (N := none) #[true, true, true, true, true] rfl rfl (by kernel_rfl) (by decide) (fun K hK => ?_)
  refine skip_ (w1 := ?_) (by rfl) rfl ?_ ?_
  rotate_left
  · go_simp
    rfl
  refine hK.out _ _ ?_
  clear hK K
  refine done_ (by kernel_rfl) ?_

  have hI5 := (hI4.put 4 5 _ _ (hI4.x.put2 v2 s2)).on (Below.drew (Below.refl _ _))
  clear hI4 q0 q1 hcb x0 x1 z0 z1 hHeld
  go_wp2_with fail
  generalize ((w4.setCell ⟨xb, 4, none⟩ _).setCell ⟨xb, 5, none⟩ _).drew = w2 at hI5 ⊢
  have hI := hI5
  clear hI5
  -- round 3
  rw [rounds_succ]
  have ix := sfi3
  have wk : w2.cell? ⟨A, 3, none⟩ = some (.string t3) := hI.ws 3 (by decide)
  go_wp2_with fail
  refine (p3 w2 hI.env (hErH.out.on hI.below) hI.g8).mono ?_
  rintro e w3 ⟨rfl, hb3⟩
  clear wk
  go_wp2
  generalize hW : w3.alloc (.cells #[.int .u64 v3, .bool s3] 24) = w4
  have hI4 : SpI w A xb cb [t0, t1, t2, t3, t4] _ w4 := hW ▸ (hI.on hb3).on ((Below.refl _ _).alloc (Nat.le_refl _) _)
  have q0 : w4.cell? ⟨w3.heap.size, 0, none⟩ = some (.int .u64 v3) := by subst hW; go_simp
  have q1 : w4.cell? ⟨w3.heap.size, 1, none⟩ = some (.bool s3) := by subst hW; go_simp
  have hcb : w4.drew.cell? ⟨cb, 0, none⟩ = some (.pointer (some ⟨xb, 0, none⟩)) := hI4.c
  have x0 := blk_cell hI4.x 6
  have x1 := blk_cell hI4.x 7
  have z0 := blk_frozen hI4.x 6
  have z1 := blk_frozen hI4.x 7
  simp only [List.getElem?_toArray, List.getElem?_cons_succ, List.getElem?_cons_zero] at x0 x1
  clear hI hb3 hW ix
  refine start_ (n := 5) (S := fun w' => w'.cell? ⟨w3.heap.size, 0, none⟩ = some (.int .u64 v3) ∧ w'.cell? ⟨w3.heap.size, 1, none⟩ = some (.bool s3)) (ds := [4]) #[false, false, false, false, false] (by kernel_rfl) rfl rfl ⟨q0, q1⟩ (fun hHeld => ?_)
  refine pure_ (i := 0) (N := some 41) (v := ?_) (a' := ?_) #[true, false, false, false, false] rfl rfl (by kernel_rfl) (fun _ _ _ h => h) (Or.inl ⟨by rfl, ?_⟩) ?_ ?_
  rotate_left
  · intro w'
    go_simp
    with_reducible rfl
  rotate_left
  · simp only [Act.put, List.setIfInBounds_toArray, List.set_cons_zero, List.set_cons_succ, i64_w, i32_w]
    rfl
  refine take_ (i := 2) (N := some 43) (v := ?_) (a' := ?_) #[true, false, true, false, false] rfl rfl (by kernel_rfl) (fun _ _ _ h => h) (Or.inl ⟨by rfl, ?_⟩) hHeld ?_ ?_
  rotate_left
  · rintro w' ⟨s0, s1⟩
    go_simp
    with_reducible rfl
  rotate_left
  · simp only [Act.put, List.setIfInBounds_toArray, List.set_cons_zero, List.set_cons_succ, i64_w, i32_w]
    rfl
  refine one_ (i := 1) (N := some 42) #[true, true, true, false, false] rfl rfl (by kernel_rfl) (by decide) (fun K hK => ?_)
  refine call_ (92) #[.pointer (some ⟨cb, 0, none⟩)] (by rfl) rfl ?_ ?_
  · have he := eg_sf4
    go_simp
  with_reducible refine (sfl3 ⟨cb, 0, none⟩ xb _ hcb).mono ?_
  rintro e w5 ⟨rfl, rfl⟩
  refine ⟨_, rfl, ?_⟩
  refine hK.out _ _ ⟨q0, q1⟩ (fun hHeld => ?_)
  clear hK K
  refine norm_ (a' := ?_) ?_ ?_
  rotate_left
  · show Act.put _ (some 42) _ = _
    simp only [Act.put, List.setIfInBounds_toArray, List.set_cons_zero, List.set_cons_succ, i64_w, i32_w]
    rfl
  refine pure_ (i := 3) (N := some 44) (v := ?_) (a' := ?_) #[true, true, true, true, false] rfl rfl (by kernel_rfl) (fun _ _ _ h => h) (Or.inl ⟨by rfl, ?_⟩) ?_ ?_
  rotate_left
  · intro w'
    go_simp
    with_reducible rfl
  rotate_left
  · simp only [Act.put, List.setIfInBounds_toArray, List.set_cons_zero, List.set_cons_succ, i64_w, i32_w]
    rfl
  refine last_ (i := 4) (N := none) #[true, true, true, true, true] rfl rfl (by kernel_rfl) (by decide) (fun K hK => ?_)
  refine skip_ (w1 := ?_) (by rfl) rfl ?_ ?_
  rotate_left
  · go_simp
    rfl
  refine hK.out _ _ ?_
  clear hK K
  refine done_ (by kernel_rfl) ?_

  have hI5 := (hI4.put 6 7 _ _ (hI4.x.put3 v3 s3)).on (Below.drew (Below.refl _ _))
  clear hI4 q0 q1 hcb x0 x1 z0 z1 hHeld
  go_wp2_with fail
  generalize ((w4.setCell ⟨xb, 6, none⟩ _).setCell ⟨xb, 7, none⟩ _).drew = w2 at hI5 ⊢
  have hI := hI5
  clear hI5
  -- round 4
  rw [rounds_succ]
  have ix := sfi4
  have wk : w2.cell? ⟨A, 4, none⟩ = some (.string t4) := hI.ws 4 (by decide)
  go_wp2_with fail
  refine (p4 w2 hI.env (hErH.out.on hI.below) hI.g8).mono ?_
  rintro e w3 ⟨rfl, hb3⟩
  clear wk
  go_wp2
  generalize hW : w3.alloc (.cells #[.int .u64 v4, .bool s4] 24) = w4
  have hI4 : SpI w A xb cb [t0, t1, t2, t3, t4] _ w4 := hW ▸ (hI.on hb3).on ((Below.refl _ _).alloc (Nat.le_refl _) _)
  have q0 : w4.cell? ⟨w3.heap.size, 0, none⟩ = some (.int .u64 v4) := by subst hW; go_simp
  have q1 : w4.cell? ⟨w3.heap.size, 1, none⟩ = some (.bool s4) := by subst hW; go_simp
  have hcb : w4.drew.cell? ⟨cb, 0, none⟩ = some (.pointer (some ⟨xb, 0, none⟩)) := hI4.c
  have x0 := blk_cell hI4.x 8
  have x1 := blk_cell hI4.x 9
  have z0 := blk_frozen hI4.x 8
  have z1 := blk_frozen hI4.x 9
  simp only [List.getElem?_toArray, List.getElem?_cons_succ, List.getElem?_cons_zero] at x0 x1
  clear hI hb3 hW ix
  refine start_ (n := 5) (S := fun w' => w'.cell? ⟨w3.heap.size, 0, none⟩ = some (.int .u64 v4) ∧ w'.cell? ⟨w3.heap.size, 1, none⟩ = some (.bool s4)) (ds := [4]) #[false, false, false, false, false] (by kernel_rfl) rfl rfl ⟨q0, q1⟩ (fun hHeld => ?_)
  refine pure_ (i := 0) (N := some 41) (v := ?_) (a' := ?_) #[true, false, false, false, false] rfl rfl (by kernel_rfl) (fun _ _ _ h => h) (Or.inl ⟨by rfl, ?_⟩) ?_ ?_
  rotate_left
  · intro w'
    go_simp
    with_reducible rfl
  rotate_left
  · simp only [Act.put, List.setIfInBounds_toArray, List.set_cons_zero, List.set_cons_succ, i64_w, i32_w]
    rfl
  refine take_ (i := 2) (N := some 43) (v := ?_) (a' := ?_) #[true, false, true, false, false] rfl rfl (by kernel_rfl) (fun _ _ _ h => h) (Or.inl ⟨by rfl, ?_⟩) hHeld ?_ ?_
  rotate_left
  · rintro w' ⟨s0, s1⟩
    go_simp
    with_reducible rfl
  rotate_left
  · simp only [Act.put, List.setIfInBounds_toArray, List.set_cons_zero, List.set_cons_succ, i64_w, i32_w]
    rfl
  refine one_ (i := 1) (N := some 42) #[true, true, true, false, false] rfl rfl (by kernel_rfl) (by decide) (fun K hK => ?_)
  refine call_ (93) #[.pointer (some ⟨cb, 0, none⟩)] (by rfl) rfl ?_ ?_
  · have he := eg_sf5
    go_simp
  with_reducible refine (sfl4 ⟨cb, 0, none⟩ xb _ hcb).mono ?_
  rintro e w5 ⟨rfl, rfl⟩
  refine ⟨_, rfl, ?_⟩
  refine hK.out _ _ ⟨q0, q1⟩ (fun hHeld => ?_)
  clear hK K
  refine norm_ (a' := ?_) ?_ ?_
  rotate_left
  · show Act.put _ (some 42) _ = _
    simp only [Act.put, List.setIfInBounds_toArray, List.set_cons_zero, List.set_cons_succ, i64_w, i32_w]
    rfl
  refine pure_ (i := 3) (N := some 44) (v := ?_) (a' := ?_) #[true, true, true, true, false] rfl rfl (by kernel_rfl) (fun _ _ _ h => h) (Or.inl ⟨by rfl, ?_⟩) ?_ ?_
  rotate_left
  · intro w'
    go_simp
    with_reducible rfl
  rotate_left
  · simp only [Act.put, List.setIfInBounds_toArray, List.set_cons_zero, List.set_cons_succ, i64_w, i32_w]
    rfl
  refine last_ (i := 4) (N := none) #[true, true, true, true, true] rfl rfl (by kernel_rfl) (by decide) (fun K hK => ?_)
  refine skip_ (w1 := ?_) (by rfl) rfl ?_ ?_
  rotate_left
  · go_simp
    rfl
  refine hK.out _ _ ?_
  clear hK K
  refine done_ (by kernel_rfl) ?_

  have hI5 := (hI4.put 8 9 _ _ (hI4.x.put4 v4 s4)).on (Below.drew (Below.refl _ _))
  clear hI4 q0 q1 hcb x0 x1 z0 z1 hHeld
  go_wp2_with fail
  generalize ((w4.setCell ⟨xb, 8, none⟩ _).setCell ⟨xb, 9, none⟩ _).drew = w2 at hI5 ⊢
  have hI := hI5
  clear hI5
  rw [rounds_succ]
  have hr := hI.r
  obtain ⟨c0, c1, c2, c3, c4, c5, c6, c7, c8, c9⟩ := hI.x.spIn
  obtain ⟨d0, d1, d2, d3, d4, d5, d6, d7, d8, d9⟩ := hr.spIn
  obtain ⟨z0, z1, z2, z3, z4, z5, z6, z7, z8, z9⟩ := hr.fz
  have hB := hI.below
  clear hI
  go_wp2
  have hB9 : Below w.heap.size w ((((((((((w2.setCell ⟨w.heap.size, 0, none⟩ (.int .u64 v0)).setCell ⟨w.heap.size, 1, none⟩ (.bool s0)).setCell ⟨w.heap.size, 2, none⟩ (.int .u64 v1)).setCell ⟨w.heap.size, 3, none⟩ (.bool s1)).setCell ⟨w.heap.size, 4, none⟩ (.int .u64 v2)).setCell ⟨w.heap.size, 5, none⟩ (.bool s2)).setCell ⟨w.heap.size, 6, none⟩ (.int .u64 v3)).setCell ⟨w.heap.size, 7, none⟩ (.bool s3)).setCell ⟨w.heap.size, 8, none⟩ (.int .u64 v4)).setCell ⟨w.heap.size, 9, none⟩ (.bool s4)) := ((((((((((hB.setCell (p := ⟨w.heap.size, 0, none⟩) (Nat.le_refl _) _).setCell (p := ⟨w.heap.size, 1, none⟩) (Nat.le_refl _) _).setCell (p := ⟨w.heap.size, 2, none⟩) (Nat.le_refl _) _).setCell (p := ⟨w.heap.size, 3, none⟩) (Nat.le_refl _) _).setCell (p := ⟨w.heap.size, 4, none⟩) (Nat.le_refl _) _).setCell (p := ⟨w.heap.size, 5, none⟩) (Nat.le_refl _) _).setCell (p := ⟨w.heap.size, 6, none⟩) (Nat.le_refl _) _).setCell (p := ⟨w.heap.size, 7, none⟩) (Nat.le_refl _) _).setCell (p := ⟨w.heap.size, 8, none⟩) (Nat.le_refl _) _).setCell (p := ⟨w.heap.size, 9, none⟩) (Nat.le_refl _) _)
  have hr9 : SpB ((((((((((w2.setCell ⟨w.heap.size, 0, none⟩ (.int .u64 v0)).setCell ⟨w.heap.size, 1, none⟩ (.bool s0)).setCell ⟨w.heap.size, 2, none⟩ (.int .u64 v1)).setCell ⟨w.heap.size, 3, none⟩ (.bool s1)).setCell ⟨w.heap.size, 4, none⟩ (.int .u64 v2)).setCell ⟨w.heap.size, 5, none⟩ (.bool s2)).setCell ⟨w.heap.size, 6, none⟩ (.int .u64 v3)).setCell ⟨w.heap.size, 7, none⟩ (.bool s3)).setCell ⟨w.heap.size, 8, none⟩ (.int .u64 v4)).setCell ⟨w.heap.size, 9, none⟩ (.bool s4)) w.heap.size ⟨⟨v0, s0⟩, ⟨v1, s1⟩, ⟨v2, s2⟩, ⟨v3, s3⟩, ⟨v4, s4⟩⟩ := (((((hr.put0 v0 s0).put1 v1 s1).put2 v2 s2).put3 v3 s3).put4 v4 s4)
  clear c0 c1 c2 c3 c4 c5 c6 c7 c8 c9 d0 d1 d2 d3 d4 d5 d6 d7 d8 d9 z0 z1 z2 z3 z4 z5 z6 z7 z8 z9 hr hB
  generalize ((((((((((w2.setCell ⟨w.heap.size, 0, none⟩ (.int .u64 v0)).setCell ⟨w.heap.size, 1, none⟩ (.bool s0)).setCell ⟨w.heap.size, 2, none⟩ (.int .u64 v1)).setCell ⟨w.heap.size, 3, none⟩ (.bool s1)).setCell ⟨w.heap.size, 4, none⟩ (.int .u64 v2)).setCell ⟨w.heap.size, 5, none⟩ (.bool s2)).setCell ⟨w.heap.size, 6, none⟩ (.int .u64 v3)).setCell ⟨w.heap.size, 7, none⟩ (.bool s3)).setCell ⟨w.heap.size, 8, none⟩ (.int .u64 v4)).setCell ⟨w.heap.size, 9, none⟩ (.bool s4)) = w9 at *
  obtain ⟨c0, c1, c2, c3, c4, c5, c6, c7, c8, c9⟩ := hr9.spIn
  refine bodyPost_ret (v := .tuple #[.agg #[.int .u64 v0, .bool s0, .int .u64 v1, .bool s1, .int .u64 v2, .bool s2, .int .u64 v3, .bool s3, .int .u64 v4, .bool s4], .int .i64 0, .int .i64 0]) (by simp [results, Tryz.results34, go_sem, c0, c1, c2, c3, c4, c5, c6, c7, c8, c9]) rfl ⟨rfl, hB9⟩


set_option maxRecDepth 100000 in
set_option maxHeartbeats 2000000 in
theorem spec_bad0 (s : ByteArray) (e0 : Int) (w : World) (he : e0 ≠ 0) (t0 t1 t2 t3 t4 : ByteArray) (s0 s1 s2 s3 s4 : Bool) (v0 v1 v2 v3 v4 : Int) (hE : Env w) (hEr : ErrV w) (h8 : 8 ≤ w.heap.size) (hs : s.size ≤ 256)
    (hk : ∀ i (h : i < s.size), s[i].toNat < 128 ∧ knownI (s[i].toNat : Int) = true) (hw : wordsL s = [t0, t1, t2, t3, t4])
     (pe : FP t0 0 0 false e0) :
    Calls Tryz.prog 34 #[.string s] w fun e w' => e = .returned (.tuple #[.agg #[.int .u64 sp0.m.b, .bool sp0.m.s, .int .u64 sp0.h.b, .bool sp0.h.s, .int .u64 sp0.d.b, .bool sp0.d.s, .int .u64 sp0.n.b, .bool sp0.n.s, .int .u64 sp0.w.b, .bool sp0.w.s], .int .i64 1, .int .i64 e0]) ∧ Below w.heap.size w w' := by
  have hwo := fun W => Lib.hid (words_ok s W hs hk (by rw [hw]; rfl))
  have hw := Lib.hid hw
  clear hk
  have hErH := Lib.hid hEr
  have hne : (e0 != 0) = true := by simpa using he
  clear he
  clear hEr
  go_enter Tryz.func34, Tryz.ntmps34
  go_wp2_with fail
  refine (hwo _).out.mono ?_
  clear hwo
  rintro e w1 ⟨A, rfl, hcA, hlA, hb1⟩
  rw [hw.out] at hcA
  have hcB := Lib.hid hcA
  clear hcA
  have hr1 : SpB w1 w.heap.size sp0 := blk_below (w := w.alloc (.cells #[.int .u64 sp0.m.b, .bool sp0.m.s, .int .u64 sp0.h.b, .bool sp0.h.s, .int .u64 sp0.d.b, .bool sp0.d.s, .int .u64 sp0.n.b, .bool sp0.n.s, .int .u64 sp0.w.b, .bool sp0.w.s] 26)) (blk_new _ _) hb1
  have hB1 : Below w.heap.size w w1 := ((Below.refl _ _).alloc (Nat.le_refl _) _).trans (hb1.mono (by simp))
  have hlt1 := blk_lt hr1
  clear hb1
  go_wp2_with fail
  refine (fields_any _ _).mono ?_
  rintro e w2 ⟨rfl, hc, hsz, hb2⟩
  have hI : SpI w A w1.heap.size (w1.heap.size + 1) [t0, t1, t2, t3, t4] sp0 w2 := by
    have hb : Below w1.heap.size w1 (w1.alloc (.cells #[.int .u64 sp0.m.b, .bool sp0.m.s, .int .u64 sp0.h.b, .bool sp0.h.s, .int .u64 sp0.d.b, .bool sp0.d.s, .int .u64 sp0.n.b, .bool sp0.n.s, .int .u64 sp0.w.b, .bool sp0.w.s] 26)) := (Below.refl _ _).alloc (Nat.le_refl _) _
    have hb3 : Below w1.heap.size w1 w2 := hb.trans (hb2.mono (by simp))
    refine ⟨hB1.trans (hb3.mono hB1.size), blk_below hr1 hb3, blk_below (w := w1.alloc (.cells #[.int .u64 sp0.m.b, .bool sp0.m.s, .int .u64 sp0.h.b, .bool sp0.h.s, .int .u64 sp0.d.b, .bool sp0.d.s, .int .u64 sp0.n.b, .bool sp0.n.s, .int .u64 sp0.w.b, .bool sp0.w.s] 26)) (blk_new _ _) hb2, ?_, fun j hj => (hb3.cell (p := ⟨A, j, none⟩) hlA).trans (hcB.out j hj),
      (hE.below hB1).below hb3, by have := hb3.size; omega, hlt1, by omega, by omega, by omega, by have := hb3.size; omega, by simp at hsz; omega⟩
    simpa only [World.size_alloc] using hc
  simp only [World.size_alloc]
  clear hb2 hsz hc hcB hlA hr1 hB1 hlt1
  generalize w1.heap.size + 1 = cb at *
  generalize w1.heap.size = xb at *
  clear w1
  go_wp2_with fail
  refine wp_loop_rounds 6 ?_
  -- round 0
  rw [rounds_succ]
  have ix := sfi0
  have wk : w2.cell? ⟨A, 0, none⟩ = some (.string t0) := hI.ws 0 (by decide)
  go_wp2_with fail
  refine (pe w2 hI.env (hErH.out.on hI.below) hI.g8).mono ?_
  rintro e w3 ⟨rfl, hb3⟩
  clear wk
  have hI4 := (hI.on hb3).on ((Below.refl _ _).alloc (Nat.le_refl _) (.cells #[.int .u64 0, .bool false] 24))
  have hB1 := hI4.below
  have hr1 := hI4.r
  clear hI hb3 hI4 ix
  obtain ⟨d0, d1, d2, d3, d4, d5, d6, d7, d8, d9⟩ := hr1.spIn
  obtain ⟨z0, z1, z2, z3, z4, z5, z6, z7, z8, z9⟩ := hr1.fz
  have hr1H := Lib.hid hr1
  clear hr1
  go_wp2
  have hB9 : Below w.heap.size w (((((((((((w3.alloc (.cells #[.int .u64 0, .bool false] 24)).setCell ⟨w.heap.size, 0, none⟩ (.int .u64 0)).setCell ⟨w.heap.size, 1, none⟩ (.bool false)).setCell ⟨w.heap.size, 2, none⟩ (.int .u64 0)).setCell ⟨w.heap.size, 3, none⟩ (.bool false)).setCell ⟨w.heap.size, 4, none⟩ (.int .u64 0)).setCell ⟨w.heap.size, 5, none⟩ (.bool false)).setCell ⟨w.heap.size, 6, none⟩ (.int .u64 0)).setCell ⟨w.heap.size, 7, none⟩ (.bool false)).setCell ⟨w.heap.size, 8, none⟩ (.int .u64 0)).setCell ⟨w.heap.size, 9, none⟩ (.bool false)) := ((((((((((hB1.setCell (p := ⟨w.heap.size, 0, none⟩) (Nat.le_refl _) _).setCell (p := ⟨w.heap.size, 1, none⟩) (Nat.le_refl _) _).setCell (p := ⟨w.heap.size, 2, none⟩) (Nat.le_refl _) _).setCell (p := ⟨w.heap.size, 3, none⟩) (Nat.le_refl _) _).setCell (p := ⟨w.heap.size, 4, none⟩) (Nat.le_refl _) _).setCell (p := ⟨w.heap.size, 5, none⟩) (Nat.le_refl _) _).setCell (p := ⟨w.heap.size, 6, none⟩) (Nat.le_refl _) _).setCell (p := ⟨w.heap.size, 7, none⟩) (Nat.le_refl _) _).setCell (p := ⟨w.heap.size, 8, none⟩) (Nat.le_refl _) _).setCell (p := ⟨w.heap.size, 9, none⟩) (Nat.le_refl _) _)
  have hr9 : SpB (((((((((((w3.alloc (.cells #[.int .u64 0, .bool false] 24)).setCell ⟨w.heap.size, 0, none⟩ (.int .u64 0)).setCell ⟨w.heap.size, 1, none⟩ (.bool false)).setCell ⟨w.heap.size, 2, none⟩ (.int .u64 0)).setCell ⟨w.heap.size, 3, none⟩ (.bool false)).setCell ⟨w.heap.size, 4, none⟩ (.int .u64 0)).setCell ⟨w.heap.size, 5, none⟩ (.bool false)).setCell ⟨w.heap.size, 6, none⟩ (.int .u64 0)).setCell ⟨w.heap.size, 7, none⟩ (.bool false)).setCell ⟨w.heap.size, 8, none⟩ (.int .u64 0)).setCell ⟨w.heap.size, 9, none⟩ (.bool false)) w.heap.size sp0 := (((((hr1H.out.put0 0 false).put1 0 false).put2 0 false).put3 0 false).put4 0 false)
  clear d0 d1 d2 d3 d4 d5 d6 d7 d8 d9 z0 z1 z2 z3 z4 z5 z6 z7 z8 z9
  generalize (((((((((((w3.alloc (.cells #[.int .u64 0, .bool false] 24)).setCell ⟨w.heap.size, 0, none⟩ (.int .u64 0)).setCell ⟨w.heap.size, 1, none⟩ (.bool false)).setCell ⟨w.heap.size, 2, none⟩ (.int .u64 0)).setCell ⟨w.heap.size, 3, none⟩ (.bool false)).setCell ⟨w.heap.size, 4, none⟩ (.int .u64 0)).setCell ⟨w.heap.size, 5, none⟩ (.bool false)).setCell ⟨w.heap.size, 6, none⟩ (.int .u64 0)).setCell ⟨w.heap.size, 7, none⟩ (.bool false)).setCell ⟨w.heap.size, 8, none⟩ (.int .u64 0)).setCell ⟨w.heap.size, 9, none⟩ (.bool false)) = w9 at *
  obtain ⟨c0, c1, c2, c3, c4, c5, c6, c7, c8, c9⟩ := hr9.spIn
  refine bodyPost_ret (v := .tuple #[.agg #[.int .u64 sp0.m.b, .bool sp0.m.s, .int .u64 sp0.h.b, .bool sp0.h.s, .int .u64 sp0.d.b, .bool sp0.d.s, .int .u64 sp0.n.b, .bool sp0.n.s, .int .u64 sp0.w.b, .bool sp0.w.s], .int .i64 1, .int .i64 e0]) (by simp [results, Tryz.results34, go_sem, c0, c1, c2, c3, c4, c5, c6, c7, c8, c9]) rfl ⟨rfl, hB9⟩

set_option maxRecDepth 100000 in
set_option maxHeartbeats 2000000 in
theorem spec_bad1 (s : ByteArray) (e0 : Int) (w : World) (he : e0 ≠ 0) (t0 t1 t2 t3 t4 : ByteArray) (s0 s1 s2 s3 s4 : Bool) (v0 v1 v2 v3 v4 : Int) (hE : Env w) (hEr : ErrV w) (h8 : 8 ≤ w.heap.size) (hs : s.size ≤ 256)
    (hk : ∀ i (h : i < s.size), s[i].toNat < 128 ∧ knownI (s[i].toNat : Int) = true) (hw : wordsL s = [t0, t1, t2, t3, t4])
    (p0 : FP t0 0 v0 s0 0) (pe : FP t1 1 0 false e0) :
    Calls Tryz.prog 34 #[.string s] w fun e w' => e = .returned (.tuple #[.agg #[.int .u64 sp0.m.b, .bool sp0.m.s, .int .u64 sp0.h.b, .bool sp0.h.s, .int .u64 sp0.d.b, .bool sp0.d.s, .int .u64 sp0.n.b, .bool sp0.n.s, .int .u64 sp0.w.b, .bool sp0.w.s], .int .i64 2, .int .i64 e0]) ∧ Below w.heap.size w w' := by
  have hwo := fun W => Lib.hid (words_ok s W hs hk (by rw [hw]; rfl))
  have hw := Lib.hid hw
  clear hk
  have hErH := Lib.hid hEr
  have hne : (e0 != 0) = true := by simpa using he
  clear he
  clear hEr
  go_enter Tryz.func34, Tryz.ntmps34
  go_wp2_with fail
  refine (hwo _).out.mono ?_
  clear hwo
  rintro e w1 ⟨A, rfl, hcA, hlA, hb1⟩
  rw [hw.out] at hcA
  have hcB := Lib.hid hcA
  clear hcA
  have hr1 : SpB w1 w.heap.size sp0 := blk_below (w := w.alloc (.cells #[.int .u64 sp0.m.b, .bool sp0.m.s, .int .u64 sp0.h.b, .bool sp0.h.s, .int .u64 sp0.d.b, .bool sp0.d.s, .int .u64 sp0.n.b, .bool sp0.n.s, .int .u64 sp0.w.b, .bool sp0.w.s] 26)) (blk_new _ _) hb1
  have hB1 : Below w.heap.size w w1 := ((Below.refl _ _).alloc (Nat.le_refl _) _).trans (hb1.mono (by simp))
  have hlt1 := blk_lt hr1
  clear hb1
  go_wp2_with fail
  refine (fields_any _ _).mono ?_
  rintro e w2 ⟨rfl, hc, hsz, hb2⟩
  have hI : SpI w A w1.heap.size (w1.heap.size + 1) [t0, t1, t2, t3, t4] sp0 w2 := by
    have hb : Below w1.heap.size w1 (w1.alloc (.cells #[.int .u64 sp0.m.b, .bool sp0.m.s, .int .u64 sp0.h.b, .bool sp0.h.s, .int .u64 sp0.d.b, .bool sp0.d.s, .int .u64 sp0.n.b, .bool sp0.n.s, .int .u64 sp0.w.b, .bool sp0.w.s] 26)) := (Below.refl _ _).alloc (Nat.le_refl _) _
    have hb3 : Below w1.heap.size w1 w2 := hb.trans (hb2.mono (by simp))
    refine ⟨hB1.trans (hb3.mono hB1.size), blk_below hr1 hb3, blk_below (w := w1.alloc (.cells #[.int .u64 sp0.m.b, .bool sp0.m.s, .int .u64 sp0.h.b, .bool sp0.h.s, .int .u64 sp0.d.b, .bool sp0.d.s, .int .u64 sp0.n.b, .bool sp0.n.s, .int .u64 sp0.w.b, .bool sp0.w.s] 26)) (blk_new _ _) hb2, ?_, fun j hj => (hb3.cell (p := ⟨A, j, none⟩) hlA).trans (hcB.out j hj),
      (hE.below hB1).below hb3, by have := hb3.size; omega, hlt1, by omega, by omega, by omega, by have := hb3.size; omega, by simp at hsz; omega⟩
    simpa only [World.size_alloc] using hc
  simp only [World.size_alloc]
  clear hb2 hsz hc hcB hlA hr1 hB1 hlt1
  generalize w1.heap.size + 1 = cb at *
  generalize w1.heap.size = xb at *
  clear w1
  go_wp2_with fail
  refine wp_loop_rounds 6 ?_
  -- round 0
  rw [rounds_succ]
  have ix := sfi0
  have wk : w2.cell? ⟨A, 0, none⟩ = some (.string t0) := hI.ws 0 (by decide)
  go_wp2_with fail
  refine (p0 w2 hI.env (hErH.out.on hI.below) hI.g8).mono ?_
  rintro e w3 ⟨rfl, hb3⟩
  clear wk
  go_wp2
  generalize hW : w3.alloc (.cells #[.int .u64 v0, .bool s0] 24) = w4
  have hI4 : SpI w A xb cb [t0, t1, t2, t3, t4] _ w4 := hW ▸ (hI.on hb3).on ((Below.refl _ _).alloc (Nat.le_refl _) _)
  have q0 : w4.cell? ⟨w3.heap.size, 0, none⟩ = some (.int .u64 v0) := by subst hW; go_simp
  have q1 : w4.cell? ⟨w3.heap.size, 1, none⟩ = some (.bool s0) := by subst hW; go_simp
  have hcb : w4.drew.cell? ⟨cb, 0, none⟩ = some (.pointer (some ⟨xb, 0, none⟩)) := hI4.c
  have x0 := blk_cell hI4.x 0
  have x1 := blk_cell hI4.x 1
  have z0 := blk_frozen hI4.x 0
  have z1 := blk_frozen hI4.x 1
  simp only [List.getElem?_toArray, List.getElem?_cons_succ, List.getElem?_cons_zero] at x0 x1
  clear hI hb3 hW ix
  refine start_ (n := 5) (S := fun w' => w'.cell? ⟨w3.heap.size, 0, none⟩ = some (.int .u64 v0) ∧ w'.cell? ⟨w3.heap.size, 1, none⟩ = some (.bool s0)) (ds := [4]) #[false, false, false, false, false] (by kernel_rfl) rfl rfl ⟨q0, q1⟩ (fun hHeld => ?_)
  refine pure_ (i := 0) (N := some 41) (v := ?_) (a' := ?_) #[true, false, false, false, false] rfl rfl (by kernel_rfl) (fun _ _ _ h => h) (Or.inl ⟨by rfl, ?_⟩) ?_ ?_
  rotate_left
  · intro w'
    go_simp
    with_reducible rfl
  rotate_left
  · simp only [Act.put, List.setIfInBounds_toArray, List.set_cons_zero, List.set_cons_succ, i64_w, i32_w]
    rfl
  refine take_ (i := 2) (N := some 43) (v := ?_) (a' := ?_) #[true, false, true, false, false] rfl rfl (by kernel_rfl) (fun _ _ _ h => h) (Or.inl ⟨by rfl, ?_⟩) hHeld ?_ ?_
  rotate_left
  · rintro w' ⟨s0, s1⟩
    go_simp
    with_reducible rfl
  rotate_left
  · simp only [Act.put, List.setIfInBounds_toArray, List.set_cons_zero, List.set_cons_succ, i64_w, i32_w]
    rfl
  refine one_ (i := 1) (N := some 42) #[true, true, true, false, false] rfl rfl (by kernel_rfl) (by decide) (fun K hK => ?_)
  refine call_ (89) #[.pointer (some ⟨cb, 0, none⟩)] (by rfl) rfl ?_ ?_
  · have he := eg_sf1
    go_simp
  with_reducible refine (sfl0 ⟨cb, 0, none⟩ xb _ hcb).mono ?_
  rintro e w5 ⟨rfl, rfl⟩
  refine ⟨_, rfl, ?_⟩
  refine hK.out _ _ ⟨q0, q1⟩ (fun hHeld => ?_)
  clear hK K
  refine norm_ (a' := ?_) ?_ ?_
  rotate_left
  · show Act.put _ (some 42) _ = _
    simp only [Act.put, List.setIfInBounds_toArray, List.set_cons_zero, List.set_cons_succ, i64_w, i32_w]
    rfl
  refine pure_ (i := 3) (N := some 44) (v := ?_) (a' := ?_) #[true, true, true, true, false] rfl rfl (by kernel_rfl) (fun _ _ _ h => h) (Or.inl ⟨by rfl, ?_⟩) ?_ ?_
  rotate_left
  · intro w'
    go_simp
    with_reducible rfl
  rotate_left
  · simp only [Act.put, List.setIfInBounds_toArray, List.set_cons_zero, List.set_cons_succ, i64_w, i32_w]
    rfl
  refine last_ (i := 4) (N := none) #[true, true, true, true, true] rfl rfl (by kernel_rfl) (by decide) (fun K hK => ?_)
  refine skip_ (w1 := ?_) (by rfl) rfl ?_ ?_
  rotate_left
  · go_simp
    rfl
  refine hK.out _ _ ?_
  clear hK K
  refine done_ (by kernel_rfl) ?_

  have hI5 := (hI4.put 0 1 _ _ (hI4.x.put0 v0 s0)).on (Below.drew (Below.refl _ _))
  clear hI4 q0 q1 hcb x0 x1 z0 z1 hHeld
  go_wp2_with fail
  generalize ((w4.setCell ⟨xb, 0, none⟩ _).setCell ⟨xb, 1, none⟩ _).drew = w2 at hI5 ⊢
  have hI := hI5
  clear hI5
  -- round 1
  rw [rounds_succ]
  have ix := sfi1
  have wk : w2.cell? ⟨A, 1, none⟩ = some (.string t1) := hI.ws 1 (by decide)
  go_wp2_with fail
  refine (pe w2 hI.env (hErH.out.on hI.below) hI.g8).mono ?_
  rintro e w3 ⟨rfl, hb3⟩
  clear wk
  have hI4 := (hI.on hb3).on ((Below.refl _ _).alloc (Nat.le_refl _) (.cells #[.int .u64 0, .bool false] 24))
  have hB1 := hI4.below
  have hr1 := hI4.r
  clear hI hb3 hI4 ix
  obtain ⟨d0, d1, d2, d3, d4, d5, d6, d7, d8, d9⟩ := hr1.spIn
  obtain ⟨z0, z1, z2, z3, z4, z5, z6, z7, z8, z9⟩ := hr1.fz
  have hr1H := Lib.hid hr1
  clear hr1
  go_wp2
  have hB9 : Below w.heap.size w (((((((((((w3.alloc (.cells #[.int .u64 0, .bool false] 24)).setCell ⟨w.heap.size, 0, none⟩ (.int .u64 0)).setCell ⟨w.heap.size, 1, none⟩ (.bool false)).setCell ⟨w.heap.size, 2, none⟩ (.int .u64 0)).setCell ⟨w.heap.size, 3, none⟩ (.bool false)).setCell ⟨w.heap.size, 4, none⟩ (.int .u64 0)).setCell ⟨w.heap.size, 5, none⟩ (.bool false)).setCell ⟨w.heap.size, 6, none⟩ (.int .u64 0)).setCell ⟨w.heap.size, 7, none⟩ (.bool false)).setCell ⟨w.heap.size, 8, none⟩ (.int .u64 0)).setCell ⟨w.heap.size, 9, none⟩ (.bool false)) := ((((((((((hB1.setCell (p := ⟨w.heap.size, 0, none⟩) (Nat.le_refl _) _).setCell (p := ⟨w.heap.size, 1, none⟩) (Nat.le_refl _) _).setCell (p := ⟨w.heap.size, 2, none⟩) (Nat.le_refl _) _).setCell (p := ⟨w.heap.size, 3, none⟩) (Nat.le_refl _) _).setCell (p := ⟨w.heap.size, 4, none⟩) (Nat.le_refl _) _).setCell (p := ⟨w.heap.size, 5, none⟩) (Nat.le_refl _) _).setCell (p := ⟨w.heap.size, 6, none⟩) (Nat.le_refl _) _).setCell (p := ⟨w.heap.size, 7, none⟩) (Nat.le_refl _) _).setCell (p := ⟨w.heap.size, 8, none⟩) (Nat.le_refl _) _).setCell (p := ⟨w.heap.size, 9, none⟩) (Nat.le_refl _) _)
  have hr9 : SpB (((((((((((w3.alloc (.cells #[.int .u64 0, .bool false] 24)).setCell ⟨w.heap.size, 0, none⟩ (.int .u64 0)).setCell ⟨w.heap.size, 1, none⟩ (.bool false)).setCell ⟨w.heap.size, 2, none⟩ (.int .u64 0)).setCell ⟨w.heap.size, 3, none⟩ (.bool false)).setCell ⟨w.heap.size, 4, none⟩ (.int .u64 0)).setCell ⟨w.heap.size, 5, none⟩ (.bool false)).setCell ⟨w.heap.size, 6, none⟩ (.int .u64 0)).setCell ⟨w.heap.size, 7, none⟩ (.bool false)).setCell ⟨w.heap.size, 8, none⟩ (.int .u64 0)).setCell ⟨w.heap.size, 9, none⟩ (.bool false)) w.heap.size sp0 := (((((hr1H.out.put0 0 false).put1 0 false).put2 0 false).put3 0 false).put4 0 false)
  clear d0 d1 d2 d3 d4 d5 d6 d7 d8 d9 z0 z1 z2 z3 z4 z5 z6 z7 z8 z9
  generalize (((((((((((w3.alloc (.cells #[.int .u64 0, .bool false] 24)).setCell ⟨w.heap.size, 0, none⟩ (.int .u64 0)).setCell ⟨w.heap.size, 1, none⟩ (.bool false)).setCell ⟨w.heap.size, 2, none⟩ (.int .u64 0)).setCell ⟨w.heap.size, 3, none⟩ (.bool false)).setCell ⟨w.heap.size, 4, none⟩ (.int .u64 0)).setCell ⟨w.heap.size, 5, none⟩ (.bool false)).setCell ⟨w.heap.size, 6, none⟩ (.int .u64 0)).setCell ⟨w.heap.size, 7, none⟩ (.bool false)).setCell ⟨w.heap.size, 8, none⟩ (.int .u64 0)).setCell ⟨w.heap.size, 9, none⟩ (.bool false)) = w9 at *
  obtain ⟨c0, c1, c2, c3, c4, c5, c6, c7, c8, c9⟩ := hr9.spIn
  refine bodyPost_ret (v := .tuple #[.agg #[.int .u64 sp0.m.b, .bool sp0.m.s, .int .u64 sp0.h.b, .bool sp0.h.s, .int .u64 sp0.d.b, .bool sp0.d.s, .int .u64 sp0.n.b, .bool sp0.n.s, .int .u64 sp0.w.b, .bool sp0.w.s], .int .i64 2, .int .i64 e0]) (by simp [results, Tryz.results34, go_sem, c0, c1, c2, c3, c4, c5, c6, c7, c8, c9]) rfl ⟨rfl, hB9⟩

set_option maxRecDepth 100000 in
set_option maxHeartbeats 2000000 in
theorem spec_bad2 (s : ByteArray) (e0 : Int) (w : World) (he : e0 ≠ 0) (t0 t1 t2 t3 t4 : ByteArray) (s0 s1 s2 s3 s4 : Bool) (v0 v1 v2 v3 v4 : Int) (hE : Env w) (hEr : ErrV w) (h8 : 8 ≤ w.heap.size) (hs : s.size ≤ 256)
    (hk : ∀ i (h : i < s.size), s[i].toNat < 128 ∧ knownI (s[i].toNat : Int) = true) (hw : wordsL s = [t0, t1, t2, t3, t4])
    (p0 : FP t0 0 v0 s0 0) (p1 : FP t1 1 v1 s1 0) (pe : FP t2 2 0 false e0) :
    Calls Tryz.prog 34 #[.string s] w fun e w' => e = .returned (.tuple #[.agg #[.int .u64 sp0.m.b, .bool sp0.m.s, .int .u64 sp0.h.b, .bool sp0.h.s, .int .u64 sp0.d.b, .bool sp0.d.s, .int .u64 sp0.n.b, .bool sp0.n.s, .int .u64 sp0.w.b, .bool sp0.w.s], .int .i64 3, .int .i64 e0]) ∧ Below w.heap.size w w' := by
  have hwo := fun W => Lib.hid (words_ok s W hs hk (by rw [hw]; rfl))
  have hw := Lib.hid hw
  clear hk
  have hErH := Lib.hid hEr
  have hne : (e0 != 0) = true := by simpa using he
  clear he
  clear hEr
  go_enter Tryz.func34, Tryz.ntmps34
  go_wp2_with fail
  refine (hwo _).out.mono ?_
  clear hwo
  rintro e w1 ⟨A, rfl, hcA, hlA, hb1⟩
  rw [hw.out] at hcA
  have hcB := Lib.hid hcA
  clear hcA
  have hr1 : SpB w1 w.heap.size sp0 := blk_below (w := w.alloc (.cells #[.int .u64 sp0.m.b, .bool sp0.m.s, .int .u64 sp0.h.b, .bool sp0.h.s, .int .u64 sp0.d.b, .bool sp0.d.s, .int .u64 sp0.n.b, .bool sp0.n.s, .int .u64 sp0.w.b, .bool sp0.w.s] 26)) (blk_new _ _) hb1
  have hB1 : Below w.heap.size w w1 := ((Below.refl _ _).alloc (Nat.le_refl _) _).trans (hb1.mono (by simp))
  have hlt1 := blk_lt hr1
  clear hb1
  go_wp2_with fail
  refine (fields_any _ _).mono ?_
  rintro e w2 ⟨rfl, hc, hsz, hb2⟩
  have hI : SpI w A w1.heap.size (w1.heap.size + 1) [t0, t1, t2, t3, t4] sp0 w2 := by
    have hb : Below w1.heap.size w1 (w1.alloc (.cells #[.int .u64 sp0.m.b, .bool sp0.m.s, .int .u64 sp0.h.b, .bool sp0.h.s, .int .u64 sp0.d.b, .bool sp0.d.s, .int .u64 sp0.n.b, .bool sp0.n.s, .int .u64 sp0.w.b, .bool sp0.w.s] 26)) := (Below.refl _ _).alloc (Nat.le_refl _) _
    have hb3 : Below w1.heap.size w1 w2 := hb.trans (hb2.mono (by simp))
    refine ⟨hB1.trans (hb3.mono hB1.size), blk_below hr1 hb3, blk_below (w := w1.alloc (.cells #[.int .u64 sp0.m.b, .bool sp0.m.s, .int .u64 sp0.h.b, .bool sp0.h.s, .int .u64 sp0.d.b, .bool sp0.d.s, .int .u64 sp0.n.b, .bool sp0.n.s, .int .u64 sp0.w.b, .bool sp0.w.s] 26)) (blk_new _ _) hb2, ?_, fun j hj => (hb3.cell (p := ⟨A, j, none⟩) hlA).trans (hcB.out j hj),
      (hE.below hB1).below hb3, by have := hb3.size; omega, hlt1, by omega, by omega, by omega, by have := hb3.size; omega, by simp at hsz; omega⟩
    simpa only [World.size_alloc] using hc
  simp only [World.size_alloc]
  clear hb2 hsz hc hcB hlA hr1 hB1 hlt1
  generalize w1.heap.size + 1 = cb at *
  generalize w1.heap.size = xb at *
  clear w1
  go_wp2_with fail
  refine wp_loop_rounds 6 ?_
  -- round 0
  rw [rounds_succ]
  have ix := sfi0
  have wk : w2.cell? ⟨A, 0, none⟩ = some (.string t0) := hI.ws 0 (by decide)
  go_wp2_with fail
  refine (p0 w2 hI.env (hErH.out.on hI.below) hI.g8).mono ?_
  rintro e w3 ⟨rfl, hb3⟩
  clear wk
  go_wp2
  generalize hW : w3.alloc (.cells #[.int .u64 v0, .bool s0] 24) = w4
  have hI4 : SpI w A xb cb [t0, t1, t2, t3, t4] _ w4 := hW ▸ (hI.on hb3).on ((Below.refl _ _).alloc (Nat.le_refl _) _)
  have q0 : w4.cell? ⟨w3.heap.size, 0, none⟩ = some (.int .u64 v0) := by subst hW; go_simp
  have q1 : w4.cell? ⟨w3.heap.size, 1, none⟩ = some (.bool s0) := by subst hW; go_simp
  have hcb : w4.drew.cell? ⟨cb, 0, none⟩ = some (.pointer (some ⟨xb, 0, none⟩)) := hI4.c
  have x0 := blk_cell hI4.x 0
  have x1 := blk_cell hI4.x 1
  have z0 := blk_frozen hI4.x 0
  have z1 := blk_frozen hI4.x 1
  simp only [List.getElem?_toArray, List.getElem?_cons_succ, List.getElem?_cons_zero] at x0 x1
  clear hI hb3 hW ix
  refine start_ (n := 5) (S := fun w' => w'.cell? ⟨w3.heap.size, 0, none⟩ = some (.int .u64 v0) ∧ w'.cell? ⟨w3.heap.size, 1, none⟩ = some (.bool s0)) (ds := [4]) #[false, false, false, false, false] (by kernel_rfl) rfl rfl ⟨q0, q1⟩ (fun hHeld => ?_)
  refine pure_ (i := 0) (N := some 41) (v := ?_) (a' := ?_) #[true, false, false, false, false] rfl rfl (by kernel_rfl) (fun _ _ _ h => h) (Or.inl ⟨by rfl, ?_⟩) ?_ ?_
  rotate_left
  · intro w'
    go_simp
    with_reducible rfl
  rotate_left
  · simp only [Act.put, List.setIfInBounds_toArray, List.set_cons_zero, List.set_cons_succ, i64_w, i32_w]
    rfl
  refine take_ (i := 2) (N := some 43) (v := ?_) (a' := ?_) #[true, false, true, false, false] rfl rfl (by kernel_rfl) (fun _ _ _ h => h) (Or.inl ⟨by rfl, ?_⟩) hHeld ?_ ?_
  rotate_left
  · rintro w' ⟨s0, s1⟩
    go_simp
    with_reducible rfl
  rotate_left
  · simp only [Act.put, List.setIfInBounds_toArray, List.set_cons_zero, List.set_cons_succ, i64_w, i32_w]
    rfl
  refine one_ (i := 1) (N := some 42) #[true, true, true, false, false] rfl rfl (by kernel_rfl) (by decide) (fun K hK => ?_)
  refine call_ (89) #[.pointer (some ⟨cb, 0, none⟩)] (by rfl) rfl ?_ ?_
  · have he := eg_sf1
    go_simp
  with_reducible refine (sfl0 ⟨cb, 0, none⟩ xb _ hcb).mono ?_
  rintro e w5 ⟨rfl, rfl⟩
  refine ⟨_, rfl, ?_⟩
  refine hK.out _ _ ⟨q0, q1⟩ (fun hHeld => ?_)
  clear hK K
  refine norm_ (a' := ?_) ?_ ?_
  rotate_left
  · show Act.put _ (some 42) _ = _
    simp only [Act.put, List.setIfInBounds_toArray, List.set_cons_zero, List.set_cons_succ, i64_w, i32_w]
    rfl
  refine pure_ (i := 3) (N := some 44) (v := ?_) (a' := ?_) #[true, true, true, true, false] rfl rfl (by kernel_rfl) (fun _ _ _ h => h) (Or.inl ⟨by rfl, ?_⟩) ?_ ?_
  rotate_left
  · intro w'
    go_simp
    with_reducible rfl
  rotate_left
  · simp only [Act.put, List.setIfInBounds_toArray, List.set_cons_zero, List.set_cons_succ, i64_w, i32_w]
    rfl
  refine last_ (i := 4) (N := none) #[true, true, true, true, true] rfl rfl (by kernel_rfl) (by decide) (fun K hK => ?_)
  refine skip_ (w1 := ?_) (by rfl) rfl ?_ ?_
  rotate_left
  · go_simp
    rfl
  refine hK.out _ _ ?_
  clear hK K
  refine done_ (by kernel_rfl) ?_

  have hI5 := (hI4.put 0 1 _ _ (hI4.x.put0 v0 s0)).on (Below.drew (Below.refl _ _))
  clear hI4 q0 q1 hcb x0 x1 z0 z1 hHeld
  go_wp2_with fail
  generalize ((w4.setCell ⟨xb, 0, none⟩ _).setCell ⟨xb, 1, none⟩ _).drew = w2 at hI5 ⊢
  have hI := hI5
  clear hI5
  -- round 1
  rw [rounds_succ]
  have ix := sfi1
  have wk : w2.cell? ⟨A, 1, none⟩ = some (.string t1) := hI.ws 1 (by decide)
  go_wp2_with fail
  refine (p1 w2 hI.env (hErH.out.on hI.below) hI.g8).mono ?_
  rintro e w3 ⟨rfl, hb3⟩
  clear wk
  go_wp2
  generalize hW : w3.alloc (.cells #[.int .u64 v1, .bool s1] 24) = w4
  have hI4 : SpI w A xb cb [t0, t1, t2, t3, t4] _ w4 := hW ▸ (hI.on hb3).on ((Below.refl _ _).alloc (Nat.le_refl _) _)
  have q0 : w4.cell? ⟨w3.heap.size, 0, none⟩ = some (.int .u64 v1) := by subst hW; go_simp
  have q1 : w4.cell? ⟨w3.heap.size, 1, none⟩ = some (.bool s1) := by subst hW; go_simp
  have hcb : w4.drew.cell? ⟨cb, 0, none⟩ = some (.pointer (some ⟨xb, 0, none⟩)) := hI4.c
  have x0 := blk_cell hI4.x 2
  have x1 := blk_cell hI4.x 3
  have z0 := blk_frozen hI4.x 2
  have z1 := blk_frozen hI4.x 3
  simp only [List.getElem?_toArray, List.getElem?_cons_succ, List.getElem?_cons_zero] at x0 x1
  clear hI hb3 hW ix
  refine start_ (n := 5) (S := fun w' => w'.cell? ⟨w3.heap.size, 0, none⟩ = some (.int .u64 v1) ∧ w'.cell? ⟨w3.heap.size, 1, none⟩ = some (.bool s1)) (ds := [4]) #[false, false, false, false, false] (by kernel_rfl) rfl rfl ⟨q0, q1⟩ (fun hHeld => ?_)
  refine pure_ (i := 0) (N := some 41) (v := ?_) (a' := ?_) #[true, false, false, false, false] rfl rfl (by kernel_rfl) (fun _ _ _ h => h) (Or.inl ⟨by rfl, ?_⟩) ?_ ?_
  rotate_left
  · intro w'
    go_simp
    with_reducible rfl
  rotate_left
  · simp only [Act.put, List.setIfInBounds_toArray, List.set_cons_zero, List.set_cons_succ, i64_w, i32_w]
    rfl
  refine take_ (i := 2) (N := some 43) (v := ?_) (a' := ?_) #[true, false, true, false, false] rfl rfl (by kernel_rfl) (fun _ _ _ h => h) (Or.inl ⟨by rfl, ?_⟩) hHeld ?_ ?_
  rotate_left
  · rintro w' ⟨s0, s1⟩
    go_simp
    with_reducible rfl
  rotate_left
  · simp only [Act.put, List.setIfInBounds_toArray, List.set_cons_zero, List.set_cons_succ, i64_w, i32_w]
    rfl
  refine one_ (i := 1) (N := some 42) #[true, true, true, false, false] rfl rfl (by kernel_rfl) (by decide) (fun K hK => ?_)
  refine call_ (90) #[.pointer (some ⟨cb, 0, none⟩)] (by rfl) rfl ?_ ?_
  · have he := eg_sf2
    go_simp
  with_reducible refine (sfl1 ⟨cb, 0, none⟩ xb _ hcb).mono ?_
  rintro e w5 ⟨rfl, rfl⟩
  refine ⟨_, rfl, ?_⟩
  refine hK.out _ _ ⟨q0, q1⟩ (fun hHeld => ?_)
  clear hK K
  refine norm_ (a' := ?_) ?_ ?_
  rotate_left
  · show Act.put _ (some 42) _ = _
    simp only [Act.put, List.setIfInBounds_toArray, List.set_cons_zero, List.set_cons_succ, i64_w, i32_w]
    rfl
  refine pure_ (i := 3) (N := some 44) (v := ?_) (a' := ?_) #[true, true, true, true, false] rfl rfl (by kernel_rfl) (fun _ _ _ h => h) (Or.inl ⟨by rfl, ?_⟩) ?_ ?_
  rotate_left
  · intro w'
    go_simp
    with_reducible rfl
  rotate_left
  · simp only [Act.put, List.setIfInBounds_toArray, List.set_cons_zero, List.set_cons_succ, i64_w, i32_w]
    rfl
  refine last_ (i := 4) (N := none) #[true, true, true, true, true] rfl rfl (by kernel_rfl) (by decide) (fun K hK => ?_)
  refine skip_ (w1 := ?_) (by rfl) rfl ?_ ?_
  rotate_left
  · go_simp
    rfl
  refine hK.out _ _ ?_
  clear hK K
  refine done_ (by kernel_rfl) ?_

  have hI5 := (hI4.put 2 3 _ _ (hI4.x.put1 v1 s1)).on (Below.drew (Below.refl _ _))
  clear hI4 q0 q1 hcb x0 x1 z0 z1 hHeld
  go_wp2_with fail
  generalize ((w4.setCell ⟨xb, 2, none⟩ _).setCell ⟨xb, 3, none⟩ _).drew = w2 at hI5 ⊢
  have hI := hI5
  clear hI5
  -- round 2
  rw [rounds_succ]
  have ix := sfi2
  have wk : w2.cell? ⟨A, 2, none⟩ = some (.string t2) := hI.ws 2 (by decide)
  go_wp2_with fail
  refine (pe w2 hI.env (hErH.out.on hI.below) hI.g8).mono ?_
  rintro e w3 ⟨rfl, hb3⟩
  clear wk
  have hI4 := (hI.on hb3).on ((Below.refl _ _).alloc (Nat.le_refl _) (.cells #[.int .u64 0, .bool false] 24))
  have hB1 := hI4.below
  have hr1 := hI4.r
  clear hI hb3 hI4 ix
  obtain ⟨d0, d1, d2, d3, d4, d5, d6, d7, d8, d9⟩ := hr1.spIn
  obtain ⟨z0, z1, z2, z3, z4, z5, z6, z7, z8, z9⟩ := hr1.fz
  have hr1H := Lib.hid hr1
  clear hr1
  go_wp2
  have hB9 : Below w.heap.size w (((((((((((w3.alloc (.cells #[.int .u64 0, .bool false] 24)).setCell ⟨w.heap.size, 0, none⟩ (.int .u64 0)).setCell ⟨w.heap.size, 1, none⟩ (.bool false)).setCell ⟨w.heap.size, 2, none⟩ (.int .u64 0)).setCell ⟨w.heap.size, 3, none⟩ (.bool false)).setCell ⟨w.heap.size, 4, none⟩ (.int .u64 0)).setCell ⟨w.heap.size, 5, none⟩ (.bool false)).setCell ⟨w.heap.size, 6, none⟩ (.int .u64 0)).setCell ⟨w.heap.size, 7, none⟩ (.bool false)).setCell ⟨w.heap.size, 8, none⟩ (.int .u64 0)).setCell ⟨w.heap.size, 9, none⟩ (.bool false)) := ((((((((((hB1.setCell (p := ⟨w.heap.size, 0, none⟩) (Nat.le_refl _) _).setCell (p := ⟨w.heap.size, 1, none⟩) (Nat.le_refl _) _).setCell (p := ⟨w.heap.size, 2, none⟩) (Nat.le_refl _) _).setCell (p := ⟨w.heap.size, 3, none⟩) (Nat.le_refl _) _).setCell (p := ⟨w.heap.size, 4, none⟩) (Nat.le_refl _) _).setCell (p := ⟨w.heap.size, 5, none⟩) (Nat.le_refl _) _).setCell (p := ⟨w.heap.size, 6, none⟩) (Nat.le_refl _) _).setCell (p := ⟨w.heap.size, 7, none⟩) (Nat.le_refl _) _).setCell (p := ⟨w.heap.size, 8, none⟩) (Nat.le_refl _) _).setCell (p := ⟨w.heap.size, 9, none⟩) (Nat.le_refl _) _)
  have hr9 : SpB (((((((((((w3.alloc (.cells #[.int .u64 0, .bool false] 24)).setCell ⟨w.heap.size, 0, none⟩ (.int .u64 0)).setCell ⟨w.heap.size, 1, none⟩ (.bool false)).setCell ⟨w.heap.size, 2, none⟩ (.int .u64 0)).setCell ⟨w.heap.size, 3, none⟩ (.bool false)).setCell ⟨w.heap.size, 4, none⟩ (.int .u64 0)).setCell ⟨w.heap.size, 5, none⟩ (.bool false)).setCell ⟨w.heap.size, 6, none⟩ (.int .u64 0)).setCell ⟨w.heap.size, 7, none⟩ (.bool false)).setCell ⟨w.heap.size, 8, none⟩ (.int .u64 0)).setCell ⟨w.heap.size, 9, none⟩ (.bool false)) w.heap.size sp0 := (((((hr1H.out.put0 0 false).put1 0 false).put2 0 false).put3 0 false).put4 0 false)
  clear d0 d1 d2 d3 d4 d5 d6 d7 d8 d9 z0 z1 z2 z3 z4 z5 z6 z7 z8 z9
  generalize (((((((((((w3.alloc (.cells #[.int .u64 0, .bool false] 24)).setCell ⟨w.heap.size, 0, none⟩ (.int .u64 0)).setCell ⟨w.heap.size, 1, none⟩ (.bool false)).setCell ⟨w.heap.size, 2, none⟩ (.int .u64 0)).setCell ⟨w.heap.size, 3, none⟩ (.bool false)).setCell ⟨w.heap.size, 4, none⟩ (.int .u64 0)).setCell ⟨w.heap.size, 5, none⟩ (.bool false)).setCell ⟨w.heap.size, 6, none⟩ (.int .u64 0)).setCell ⟨w.heap.size, 7, none⟩ (.bool false)).setCell ⟨w.heap.size, 8, none⟩ (.int .u64 0)).setCell ⟨w.heap.size, 9, none⟩ (.bool false)) = w9 at *
  obtain ⟨c0, c1, c2, c3, c4, c5, c6, c7, c8, c9⟩ := hr9.spIn
  refine bodyPost_ret (v := .tuple #[.agg #[.int .u64 sp0.m.b, .bool sp0.m.s, .int .u64 sp0.h.b, .bool sp0.h.s, .int .u64 sp0.d.b, .bool sp0.d.s, .int .u64 sp0.n.b, .bool sp0.n.s, .int .u64 sp0.w.b, .bool sp0.w.s], .int .i64 3, .int .i64 e0]) (by simp [results, Tryz.results34, go_sem, c0, c1, c2, c3, c4, c5, c6, c7, c8, c9]) rfl ⟨rfl, hB9⟩

set_option maxRecDepth 100000 in
set_option maxHeartbeats 2000000 in
theorem spec_bad3 (s : ByteArray) (e0 : Int) (w : World) (he : e0 ≠ 0) (t0 t1 t2 t3 t4 : ByteArray) (s0 s1 s2 s3 s4 : Bool) (v0 v1 v2 v3 v4 : Int) (hE : Env w) (hEr : ErrV w) (h8 : 8 ≤ w.heap.size) (hs : s.size ≤ 256)
    (hk : ∀ i (h : i < s.size), s[i].toNat < 128 ∧ knownI (s[i].toNat : Int) = true) (hw : wordsL s = [t0, t1, t2, t3, t4])
    (p0 : FP t0 0 v0 s0 0) (p1 : FP t1 1 v1 s1 0) (p2 : FP t2 2 v2 s2 0) (pe : FP t3 3 0 false e0) :
    Calls Tryz.prog 34 #[.string s] w fun e w' => e = .returned (.tuple #[.agg #[.int .u64 sp0.m.b, .bool sp0.m.s, .int .u64 sp0.h.b, .bool sp0.h.s, .int .u64 sp0.d.b, .bool sp0.d.s, .int .u64 sp0.n.b, .bool sp0.n.s, .int .u64 sp0.w.b, .bool sp0.w.s], .int .i64 4, .int .i64 e0]) ∧ Below w.heap.size w w' := by
  have hwo := fun W => Lib.hid (words_ok s W hs hk (by rw [hw]; rfl))
  have hw := Lib.hid hw
  clear hk
  have hErH := Lib.hid hEr
  have hne : (e0 != 0) = true := by simpa using he
  clear he
  clear hEr
  go_enter Tryz.func34, Tryz.ntmps34
  go_wp2_with fail
  refine (hwo _).out.mono ?_
  clear hwo
  rintro e w1 ⟨A, rfl, hcA, hlA, hb1⟩
  rw [hw.out] at hcA
  have hcB := Lib.hid hcA
  clear hcA
  have hr1 : SpB w1 w.heap.size sp0 := blk_below (w := w.alloc (.cells #[.int .u64 sp0.m.b, .bool sp0.m.s, .int .u64 sp0.h.b, .bool sp0.h.s, .int .u64 sp0.d.b, .bool sp0.d.s, .int .u64 sp0.n.b, .bool sp0.n.s, .int .u64 sp0.w.b, .bool sp0.w.s] 26)) (blk_new _ _) hb1
  have hB1 : Below w.heap.size w w1 := ((Below.refl _ _).alloc (Nat.le_refl _) _).trans (hb1.mono (by simp))
  have hlt1 := blk_lt hr1
  clear hb1
  go_wp2_with fail
  refine (fields_any _ _).mono ?_
  rintro e w2 ⟨rfl, hc, hsz, hb2⟩
  have hI : SpI w A w1.heap.size (w1.heap.size + 1) [t0, t1, t2, t3, t4] sp0 w2 := by
    have hb : Below w1.heap.size w1 (w1.alloc (.cells #[.int .u64 sp0.m.b, .bool sp0.m.s, .int .u64 sp0.h.b, .bool sp0.h.s, .int .u64 sp0.d.b, .bool sp0.d.s, .int .u64 sp0.n.b, .bool sp0.n.s, .int .u64 sp0.w.b, .bool sp0.w.s] 26)) := (Below.refl _ _).alloc (Nat.le_refl _) _
    have hb3 : Below w1.heap.size w1 w2 := hb.trans (hb2.mono (by simp))
    refine ⟨hB1.trans (hb3.mono hB1.size), blk_below hr1 hb3, blk_below (w := w1.alloc (.cells #[.int .u64 sp0.m.b, .bool sp0.m.s, .int .u64 sp0.h.b, .bool sp0.h.s, .int .u64 sp0.d.b, .bool sp0.d.s, .int .u64 sp0.n.b, .bool sp0.n.s, .int .u64 sp0.w.b, .bool sp0.w.s] 26)) (blk_new _ _) hb2, ?_, fun j hj => (hb3.cell (p := ⟨A, j, none⟩) hlA).trans (hcB.out j hj),
      (hE.below hB1).below hb3, by have := hb3.size; omega, hlt1, by omega, by omega, by omega, by have := hb3.size; omega, by simp at hsz; omega⟩
    simpa only [World.size_alloc] using hc
  simp only [World.size_alloc]
  clear hb2 hsz hc hcB hlA hr1 hB1 hlt1
  generalize w1.heap.size + 1 = cb at *
  generalize w1.heap.size = xb at *
  clear w1
  go_wp2_with fail
  refine wp_loop_rounds 6 ?_
  -- round 0
  rw [rounds_succ]
  have ix := sfi0
  have wk : w2.cell? ⟨A, 0, none⟩ = some (.string t0) := hI.ws 0 (by decide)
  go_wp2_with fail
  refine (p0 w2 hI.env (hErH.out.on hI.below) hI.g8).mono ?_
  rintro e w3 ⟨rfl, hb3⟩
  clear wk
  go_wp2
  generalize hW : w3.alloc (.cells #[.int .u64 v0, .bool s0] 24) = w4
  have hI4 : SpI w A xb cb [t0, t1, t2, t3, t4] _ w4 := hW ▸ (hI.on hb3).on ((Below.refl _ _).alloc (Nat.le_refl _) _)
  have q0 : w4.cell? ⟨w3.heap.size, 0, none⟩ = some (.int .u64 v0) := by subst hW; go_simp
  have q1 : w4.cell? ⟨w3.heap.size, 1, none⟩ = some (.bool s0) := by subst hW; go_simp
  have hcb : w4.drew.cell? ⟨cb, 0, none⟩ = some (.pointer (some ⟨xb, 0, none⟩)) := hI4.c
  have x0 := blk_cell hI4.x 0
  have x1 := blk_cell hI4.x 1
  have z0 := blk_frozen hI4.x 0
  have z1 := blk_frozen hI4.x 1
  simp only [List.getElem?_toArray, List.getElem?_cons_succ, List.getElem?_cons_zero] at x0 x1
  clear hI hb3 hW ix
  refine start_ (n := 5) (S := fun w' => w'.cell? ⟨w3.heap.size, 0, none⟩ = some (.int .u64 v0) ∧ w'.cell? ⟨w3.heap.size, 1, none⟩ = some (.bool s0)) (ds := [4]) #[false, false, false, false, false] (by kernel_rfl) rfl rfl ⟨q0, q1⟩ (fun hHeld => ?_)
  refine pure_ (i := 0) (N := some 41) (v := ?_) (a' := ?_) #[true, false, false, false, false] rfl rfl (by kernel_rfl) (fun _ _ _ h => h) (Or.inl ⟨by rfl, ?_⟩) ?_ ?_
  rotate_left
  · intro w'
    go_simp
    with_reducible rfl
  rotate_left
  · simp only [Act.put, List.setIfInBounds_toArray, List.set_cons_zero, List.set_cons_succ, i64_w, i32_w]
    rfl
  refine take_ (i := 2) (N := some 43) (v := ?_) (a' := ?_) #[true, false, true, false, false] rfl rfl (by kernel_rfl) (fun _ _ _ h => h) (Or.inl ⟨by rfl, ?_⟩) hHeld ?_ ?_
  rotate_left
  · rintro w' ⟨s0, s1⟩
    go_simp
    with_reducible rfl
  rotate_left
  · simp only [Act.put, List.setIfInBounds_toArray, List.set_cons_zero, List.set_cons_succ, i64_w, i32_w]
    rfl
  refine one_ (i := 1) (N := some 42) #[true, true, true, false, false] rfl rfl (by kernel_rfl) (by decide) (fun K hK => ?_)
  refine call_ (89) #[.pointer (some ⟨cb, 0, none⟩)] (by rfl) rfl ?_ ?_
  · have he := eg_sf1
    go_simp
  with_reducible refine (sfl0 ⟨cb, 0, none⟩ xb _ hcb).mono ?_
  rintro e w5 ⟨rfl, rfl⟩
  refine ⟨_, rfl, ?_⟩
  refine hK.out _ _ ⟨q0, q1⟩ (fun hHeld => ?_)
  clear hK K
  refine norm_ (a' := ?_) ?_ ?_
  rotate_left
  · show Act.put _ (some 42) _ = _
    simp only [Act.put, List.setIfInBounds_toArray, List.set_cons_zero, List.set_cons_succ, i64_w, i32_w]
    rfl
  refine pure_ (i := 3) (N := some 44) (v := ?_) (a' := ?_) #[true, true, true, true, false] rfl rfl (by kernel_rfl) (fun _ _ _ h => h) (Or.inl ⟨by rfl, ?_⟩) ?_ ?_
  rotate_left
  · intro w'
    go_simp
    with_reducible rfl
  rotate_left
  · simp only [Act.put, List.setIfInBounds_toArray, List.set_cons_zero, List.set_cons_succ, i64_w, i32_w]
    rfl
  refine last_ (i := 4) (N := none) #[true, true, true, true, true] rfl rfl (by kernel_rfl) (by decide) (fun K hK => ?_)
  refine skip_ (w1 := ?_) (by rfl) rfl ?_ ?_
  rotate_left
  · go_simp
    rfl
  refine hK.out _ _ ?_
  clear hK K
  refine done_ (by kernel_rfl) ?_

  have hI5 := (hI4.put 0 1 _ _ (hI4.x.put0 v0 s0)).on (Below.drew (Below.refl _ _))
  clear hI4 q0 q1 hcb x0 x1 z0 z1 hHeld
  go_wp2_with fail
  generalize ((w4.setCell ⟨xb, 0, none⟩ _).setCell ⟨xb, 1, none⟩ _).drew = w2 at hI5 ⊢
  have hI := hI5
  clear hI5
  -- round 1
  rw [rounds_succ]
  have ix := sfi1
  have wk : w2.cell? ⟨A, 1, none⟩ = some (.string t1) := hI.ws 1 (by decide)
  go_wp2_with fail
  refine (p1 w2 hI.env (hErH.out.on hI.below) hI.g8).mono ?_
  rintro e w3 ⟨rfl, hb3⟩
  clear wk
  go_wp2
  generalize hW : w3.alloc (.cells #[.int .u64 v1, .bool s1] 24) = w4
  have hI4 : SpI w A xb cb [t0, t1, t2, t3, t4] _ w4 := hW ▸ (hI.on hb3).on ((Below.refl _ _).alloc (Nat.le_refl _) _)
  have q0 : w4.cell? ⟨w3.heap.size, 0, none⟩ = some (.int .u64 v1) := by subst hW; go_simp
  have q1 : w4.cell? ⟨w3.heap.size, 1, none⟩ = some (.bool s1) := by subst hW; go_simp
  have hcb : w4.drew.cell? ⟨cb, 0, none⟩ = some (.pointer (some ⟨xb, 0, none⟩)) := hI4.c
  have x0 := blk_cell hI4.x 2
  have x1 := blk_cell hI4.x 3
  have z0 := blk_frozen hI4.x 2
  have z1 := blk_frozen hI4.x 3
  simp only [List.getElem?_toArray, List.getElem?_cons_succ, List.getElem?_cons_zero] at x0 x1
  clear hI hb3 hW ix
  refine start_ (n := 5) (S := fun w' => w'.cell? ⟨w3.heap.size, 0, none⟩ = some (.int .u64 v1) ∧ w'.cell? ⟨w3.heap.size, 1, none⟩ = some (.bool s1)) (ds := [4]) #[false, false, false, false, false] (by kernel_rfl) rfl rfl ⟨q0, q1⟩ (fun hHeld => ?_)
  refine pure_ (i := 0) (N := some 41) (v := ?_) (a' := ?_) #[true, false, false, false, false] rfl rfl (by kernel_rfl) (fun _ _ _ h => h) (Or.inl ⟨by rfl, ?_⟩) ?_ ?_
  rotate_left
  · intro w'
    go_simp
    with_reducible rfl
  rotate_left
  · simp only [Act.put, List.setIfInBounds_toArray, List.set_cons_zero, List.set_cons_succ, i64_w, i32_w]
    rfl
  refine take_ (i := 2) (N := some 43) (v := ?_) (a' := ?_) #[true, false, true, false, false] rfl rfl (by kernel_rfl) (fun _ _ _ h => h) (Or.inl ⟨by rfl, ?_⟩) hHeld ?_ ?_
  rotate_left
  · rintro w' ⟨s0, s1⟩
    go_simp
    with_reducible rfl
  rotate_left
  · simp only [Act.put, List.setIfInBounds_toArray, List.set_cons_zero, List.set_cons_succ, i64_w, i32_w]
    rfl
  refine one_ (i := 1) (N := some 42) #[true, true, true, false, false] rfl rfl (by kernel_rfl) (by decide) (fun K hK => ?_)
  refine call_ (90) #[.pointer (some ⟨cb, 0, none⟩)] (by rfl) rfl ?_ ?_
  · have he := eg_sf2
    go_simp
  with_reducible refine (sfl1 ⟨cb, 0, none⟩ xb _ hcb).mono ?_
  rintro e w5 ⟨rfl, rfl⟩
  refine ⟨_, rfl, ?_⟩
  refine hK.out _ _ ⟨q0, q1⟩ (fun hHeld => ?_)
  clear hK K
  refine norm_ (a' := ?_) ?_ ?_
  rotate_left
  · show Act.put _ (some 42) _ = _
    simp only [Act.put, List.setIfInBounds_toArray, List.set_cons_zero, List.set_cons_succ, i64_w, i32_w]
    rfl
  refine pure_ (i := 3) (N := some 44) (v := ?_) (a' := ?_) #[true, true, true, true, false] rfl rfl (by kernel_rfl) (fun _ _ _ h => h) (Or.inl ⟨by rfl, ?_⟩) ?_ ?_
  rotate_left
  · intro w'
    go_simp
    with_reducible rfl
  rotate_left
  · simp only [Act.put, List.setIfInBounds_toArray, List.set_cons_zero, List.set_cons_succ, i64_w, i32_w]
    rfl
  refine last_ (i := 4) (N := none) #[true, true, true, true, true] rfl rfl (by kernel_rfl) (by decide) (fun K hK => ?_)
  refine skip_ (w1 := ?_) (by rfl) rfl ?_ ?_
  rotate_left
  · go_simp
    rfl
  refine hK.out _ _ ?_
  clear hK K
  refine done_ (by kernel_rfl) ?_

  have hI5 := (hI4.put 2 3 _ _ (hI4.x.put1 v1 s1)).on (Below.drew (Below.refl _ _))
  clear hI4 q0 q1 hcb x0 x1 z0 z1 hHeld
  go_wp2_with fail
  generalize ((w4.setCell ⟨xb, 2, none⟩ _).setCell ⟨xb, 3, none⟩ _).drew = w2 at hI5 ⊢
  have hI := hI5
  clear hI5
  -- round 2
  rw [rounds_succ]
  have ix := sfi2
  have wk : w2.cell? ⟨A, 2, none⟩ = some (.string t2) := hI.ws 2 (by decide)
  go_wp2_with fail
  refine (p2 w2 hI.env (hErH.out.on hI.below) hI.g8).mono ?_
  rintro e w3 ⟨rfl, hb3⟩
  clear wk
  go_wp2
  generalize hW : w3.alloc (.cells #[.int .u64 v2, .bool s2] 24) = w4
  have hI4 : SpI w A xb cb [t0, t1, t2, t3, t4] _ w4 := hW ▸ (hI.on hb3).on ((Below.refl _ _).alloc (Nat.le_refl _) _)
  have q0 : w4.cell? ⟨w3.heap.size, 0, none⟩ = some (.int .u64 v2) := by subst hW; go_simp
  have q1 : w4.cell? ⟨w3.heap.size, 1, none⟩ = some (.bool s2) := by subst hW; go_simp
  have hcb : w4.drew.cell? ⟨cb, 0, none⟩ = some (.pointer (some ⟨xb, 0, none⟩)) := hI4.c
  have x0 := blk_cell hI4.x 4
  have x1 := blk_cell hI4.x 5
  have z0 := blk_frozen hI4.x 4
  have z1 := blk_frozen hI4.x 5
  simp only [List.getElem?_toArray, List.getElem?_cons_succ, List.getElem?_cons_zero] at x0 x1
  clear hI hb3 hW ix
  refine start_ (n := 5) (S := fun w' => w'.cell? ⟨w3.heap.size, 0, none⟩ = some (.int .u64 v2) ∧ w'.cell? ⟨w3.heap.size, 1, none⟩ = some (.bool s2)) (ds := [4]) #[false, false, false, false, false] (by kernel_rfl) rfl rfl ⟨q0, q1⟩ (fun hHeld => ?_)
  refine pure_ (i := 0) (N := some 41) (v := ?_) (a' := ?_) #[true, false, false, false, false] rfl rfl (by kernel_rfl) (fun _ _ _ h => h) (Or.inl ⟨by rfl, ?_⟩) ?_ ?_
  rotate_left
  · intro w'
    go_simp
    with_reducible rfl
  rotate_left
  · simp only [Act.put, List.setIfInBounds_toArray, List.set_cons_zero, List.set_cons_succ, i64_w, i32_w]
    rfl
  refine take_ (i := 2) (N := some 43) (v := ?_) (a' := ?_) #[true, false, true, false, false] rfl rfl (by kernel_rfl) (fun _ _ _ h => h) (Or.inl ⟨by rfl, ?_⟩) hHeld ?_ ?_
  rotate_left
  · rintro w' ⟨s0, s1⟩
    go_simp
    with_reducible rfl
  rotate_left
  · simp only [Act.put, List.setIfInBounds_toArray, List.set_cons_zero, List.set_cons_succ, i64_w, i32_w]
    rfl
  refine one_ (i := 1) (N := some 42) #[true, true, true, false, false] rfl rfl (by kernel_rfl) (by decide) (fun K hK => ?_)
  refine call_ (91) #[.pointer (some ⟨cb, 0, none⟩)] (by rfl) rfl ?_ ?_
  · have he := eg_sf3
    go_simp
  with_reducible refine (sfl2 ⟨cb, 0, none⟩ xb _ hcb).mono ?_
  rintro e w5 ⟨rfl, rfl⟩
  refine ⟨_, rfl, ?_⟩
  refine hK.out _ _ ⟨q0, q1⟩ (fun hHeld => ?_)
  clear hK K
  refine norm_ (a' := ?_) ?_ ?_
  rotate_left
  · show Act.put _ (some 42) _ = _
    simp only [Act.put, List.setIfInBounds_toArray, List.set_cons_zero, List.set_cons_succ, i64_w, i32_w]
    rfl
  refine pure_ (i := 3) (N := some 44) (v := ?_) (a' := ?_) #[true, true, true, true, false] rfl rfl (by kernel_rfl) (fun _ _ _ h => h) (Or.inl ⟨by rfl, ?_⟩) ?_ ?_
  rotate_left
  · intro w'
    go_simp
    with_reducible rfl
  rotate_left
  · simp only [Act.put, List.setIfInBounds_toArray, List.set_cons_zero, List.set_cons_succ, i64_w, i32_w]
    rfl
  refine last_ (i := 4) (N := none) #[true, true, true, true, true] rfl rfl (by kernel_rfl) (by decide) (fun K hK => ?_)
  refine skip_ (w1 := ?_) (by rfl) rfl ?_ ?_
  rotate_left
  · go_simp
    rfl
  refine hK.out _ _ ?_
  clear hK K
  refine done_ (by kernel_rfl) ?_

  have hI5 := (hI4.put 4 5 _ _ (hI4.x.put2 v2 s2)).on (Below.drew (Below.refl _ _))
  clear hI4 q0 q1 hcb x0 x1 z0 z1 hHeld
  go_wp2_with fail
  generalize ((w4.setCell ⟨xb, 4, none⟩ _).setCell ⟨xb, 5, none⟩ _).drew = w2 at hI5 ⊢
  have hI := hI5
  clear hI5
  -- round 3
  rw [rounds_succ]
  have ix := sfi3
  have wk : w2.cell? ⟨A, 3, none⟩ = some (.string t3) := hI.ws 3 (by decide)
  go_wp2_with fail
  refine (pe w2 hI.env (hErH.out.on hI.below) hI.g8).mono ?_
  rintro e w3 ⟨rfl, hb3⟩
  clear wk
  have hI4 := (hI.on hb3).on ((Below.refl _ _).alloc (Nat.le_refl _) (.cells #[.int .u64 0, .bool false] 24))
  have hB1 := hI4.below
  have hr1 := hI4.r
  clear hI hb3 hI4 ix
  obtain ⟨d0, d1, d2, d3, d4, d5, d6, d7, d8, d9⟩ := hr1.spIn
  obtain ⟨z0, z1, z2, z3, z4, z5, z6, z7, z8, z9⟩ := hr1.fz
  have hr1H := Lib.hid hr1
  clear hr1
  go_wp2
  have hB9 : Below w.heap.size w (((((((((((w3.alloc (.cells #[.int .u64 0, .bool false] 24)).setCell ⟨w.heap.size, 0, none⟩ (.int .u64 0)).setCell ⟨w.heap.size, 1, none⟩ (.bool false)).setCell ⟨w.heap.size, 2, none⟩ (.int .u64 0)).setCell ⟨w.heap.size, 3, none⟩ (.bool false)).setCell ⟨w.heap.size, 4, none⟩ (.int .u64 0)).setCell ⟨w.heap.size, 5, none⟩ (.bool false)).setCell ⟨w.heap.size, 6, none⟩ (.int .u64 0)).setCell ⟨w.heap.size, 7, none⟩ (.bool false)).setCell ⟨w.heap.size, 8, none⟩ (.int .u64 0)).setCell ⟨w.heap.size, 9, none⟩ (.bool false)) := ((((((((((hB1.setCell (p := ⟨w.heap.size, 0, none⟩) (Nat.le_refl _) _).setCell (p := ⟨w.heap.size, 1, none⟩) (Nat.le_refl _) _).setCell (p := ⟨w.heap.size, 2, none⟩) (Nat.le_refl _) _).setCell (p := ⟨w.heap.size, 3, none⟩) (Nat.le_refl _) _).setCell (p := ⟨w.heap.size, 4, none⟩) (Nat.le_refl _) _).setCell (p := ⟨w.heap.size, 5, none⟩) (Nat.le_refl _) _).setCell (p := ⟨w.heap.size, 6, none⟩) (Nat.le_refl _) _).setCell (p := ⟨w.heap.size, 7, none⟩) (Nat.le_refl _) _).setCell (p := ⟨w.heap.size, 8, none⟩) (Nat.le_refl _) _).setCell (p := ⟨w.heap.size, 9, none⟩) (Nat.le_refl _) _)
  have hr9 : SpB (((((((((((w3.alloc (.cells #[.int .u64 0, .bool false] 24)).setCell ⟨w.heap.size, 0, none⟩ (.int .u64 0)).setCell ⟨w.heap.size, 1, none⟩ (.bool false)).setCell ⟨w.heap.size, 2, none⟩ (.int .u64 0)).setCell ⟨w.heap.size, 3, none⟩ (.bool false)).setCell ⟨w.heap.size, 4, none⟩ (.int .u64 0)).setCell ⟨w.heap.size, 5, none⟩ (.bool false)).setCell ⟨w.heap.size, 6, none⟩ (.int .u64 0)).setCell ⟨w.heap.size, 7, none⟩ (.bool false)).setCell ⟨w.heap.size, 8, none⟩ (.int .u64 0)).setCell ⟨w.heap.size, 9, none⟩ (.bool false)) w.heap.size sp0 := (((((hr1H.out.put0 0 false).put1 0 false).put2 0 false).put3 0 false).put4 0 false)
  clear d0 d1 d2 d3 d4 d5 d6 d7 d8 d9 z0 z1 z2 z3 z4 z5 z6 z7 z8 z9
  generalize (((((((((((w3.alloc (.cells #[.int .u64 0, .bool false] 24)).setCell ⟨w.heap.size, 0, none⟩ (.int .u64 0)).setCell ⟨w.heap.size, 1, none⟩ (.bool false)).setCell ⟨w.heap.size, 2, none⟩ (.int .u64 0)).setCell ⟨w.heap.size, 3, none⟩ (.bool false)).setCell ⟨w.heap.size, 4, none⟩ (.int .u64 0)).setCell ⟨w.heap.size, 5, none⟩ (.bool false)).setCell ⟨w.heap.size, 6, none⟩ (.int .u64 0)).setCell ⟨w.heap.size, 7, none⟩ (.bool false)).setCell ⟨w.heap.size, 8, none⟩ (.int .u64 0)).setCell ⟨w.heap.size, 9, none⟩ (.bool false)) = w9 at *
  obtain ⟨c0, c1, c2, c3, c4, c5, c6, c7, c8, c9⟩ := hr9.spIn
  refine bodyPost_ret (v := .tuple #[.agg #[.int .u64 sp0.m.b, .bool sp0.m.s, .int .u64 sp0.h.b, .bool sp0.h.s, .int .u64 sp0.d.b, .bool sp0.d.s, .int .u64 sp0.n.b, .bool sp0.n.s, .int .u64 sp0.w.b, .bool sp0.w.s], .int .i64 4, .int .i64 e0]) (by simp [results, Tryz.results34, go_sem, c0, c1, c2, c3, c4, c5, c6, c7, c8, c9]) rfl ⟨rfl, hB9⟩

set_option maxRecDepth 100000 in
set_option maxHeartbeats 2000000 in
theorem spec_bad4 (s : ByteArray) (e0 : Int) (w : World) (he : e0 ≠ 0) (t0 t1 t2 t3 t4 : ByteArray) (s0 s1 s2 s3 s4 : Bool) (v0 v1 v2 v3 v4 : Int) (hE : Env w) (hEr : ErrV w) (h8 : 8 ≤ w.heap.size) (hs : s.size ≤ 256)
    (hk : ∀ i (h : i < s.size), s[i].toNat < 128 ∧ knownI (s[i].toNat : Int) = true) (hw : wordsL s = [t0, t1, t2, t3, t4])
    (p0 : FP t0 0 v0 s0 0) (p1 : FP t1 1 v1 s1 0) (p2 : FP t2 2 v2 s2 0) (p3 : FP t3 3 v3 s3 0) (pe : FP t4 4 0 false e0) :
    Calls Tryz.prog 34 #[.string s] w fun e w' => e = .returned (.tuple #[.agg #[.int .u64 sp0.m.b, .bool sp0.m.s, .int .u64 sp0.h.b, .bool sp0.h.s, .int .u64 sp0.d.b, .bool sp0.d.s, .int .u64 sp0.n.b, .bool sp0.n.s, .int .u64 sp0.w.b, .bool sp0.w.s], .int .i64 5, .int .i64 e0]) ∧ Below w.heap.size w w' := by
  have hwo := fun W => Lib.hid (words_ok s W hs hk (by rw [hw]; rfl))
  have hw := Lib.hid hw
  clear hk
  have hErH := Lib.hid hEr
  have hne : (e0 != 0) = true := by simpa using he
  clear he
  clear hEr
  go_enter Tryz.func34, Tryz.ntmps34
  go_wp2_with fail
  refine (hwo _).out.mono ?_
  clear hwo
  rintro e w1 ⟨A, rfl, hcA, hlA, hb1⟩
  rw [hw.out] at hcA
  have hcB := Lib.hid hcA
  clear hcA
  have hr1 : SpB w1 w.heap.size sp0 := blk_below (w := w.alloc (.cells #[.int .u64 sp0.m.b, .bool sp0.m.s, .int .u64 sp0.h.b, .bool sp0.h.s, .int .u64 sp0.d.b, .bool sp0.d.s, .int .u64 sp0.n.b, .bool sp0.n.s, .int .u64 sp0.w.b, .bool sp0.w.s] 26)) (blk_new _ _) hb1
  have hB1 : Below w.heap.size w w1 := ((Below.refl _ _).alloc (Nat.le_refl _) _).trans (hb1.mono (by simp))
  have hlt1 := blk_lt hr1
  clear hb1
  go_wp2_with fail
  refine (fields_any _ _).mono ?_
  rintro e w2 ⟨rfl, hc, hsz, hb2⟩
  have hI : SpI w A w1.heap.size (w1.heap.size + 1) [t0, t1, t2, t3, t4] sp0 w2 := by
    have hb : Below w1.heap.size w1 (w1.alloc (.cells #[.int .u64 sp0.m.b, .bool sp0.m.s, .int .u64 sp0.h.b, .bool sp0.h.s, .int .u64 sp0.d.b, .bool sp0.d.s, .int .u64 sp0.n.b, .bool sp0.n.s, .int .u64 sp0.w.b, .bool sp0.w.s] 26)) := (Below.refl _ _).alloc (Nat.le_refl _) _
    have hb3 : Below w1.heap.size w1 w2 := hb.trans (hb2.mono (by simp))
    refine ⟨hB1.trans (hb3.mono hB1.size), blk_below hr1 hb3, blk_below (w := w1.alloc (.cells #[.int .u64 sp0.m.b, .bool sp0.m.s, .int .u64 sp0.h.b, .bool sp0.h.s, .int .u64 sp0.d.b, .bool sp0.d.s, .int .u64 sp0.n.b, .bool sp0.n.s, .int .u64 sp0.w.b, .bool sp0.w.s] 26)) (blk_new _ _) hb2, ?_, fun j hj => (hb3.cell (p := ⟨A, j, none⟩) hlA).trans (hcB.out j hj),
      (hE.below hB1).below hb3, by have := hb3.size; omega, hlt1, by omega, by omega, by omega, by have := hb3.size; omega, by simp at hsz; omega⟩
    simpa only [World.size_alloc] using hc
  simp only [World.size_alloc]
  clear hb2 hsz hc hcB hlA hr1 hB1 hlt1
  generalize w1.heap.size + 1 = cb at *
  generalize w1.heap.size = xb at *
  clear w1
  go_wp2_with fail
  refine wp_loop_rounds 6 ?_
  -- round 0
  rw [rounds_succ]
  have ix := sfi0
  have wk : w2.cell? ⟨A, 0, none⟩ = some (.string t0) := hI.ws 0 (by decide)
  go_wp2_with fail
  refine (p0 w2 hI.env (hErH.out.on hI.below) hI.g8).mono ?_
  rintro e w3 ⟨rfl, hb3⟩
  clear wk
  go_wp2
  generalize hW : w3.alloc (.cells #[.int .u64 v0, .bool s0] 24) = w4
  have hI4 : SpI w A xb cb [t0, t1, t2, t3, t4] _ w4 := hW ▸ (hI.on hb3).on ((Below.refl _ _).alloc (Nat.le_refl _) _)
  have q0 : w4.cell? ⟨w3.heap.size, 0, none⟩ = some (.int .u64 v0) := by subst hW; go_simp
  have q1 : w4.cell? ⟨w3.heap.size, 1, none⟩ = some (.bool s0) := by subst hW; go_simp
  have hcb : w4.drew.cell? ⟨cb, 0, none⟩ = some (.pointer (some ⟨xb, 0, none⟩)) := hI4.c
  have x0 := blk_cell hI4.x 0
  have x1 := blk_cell hI4.x 1
  have z0 := blk_frozen hI4.x 0
  have z1 := blk_frozen hI4.x 1
  simp only [List.getElem?_toArray, List.getElem?_cons_succ, List.getElem?_cons_zero] at x0 x1
  clear hI hb3 hW ix
  refine start_ (n := 5) (S := fun w' => w'.cell? ⟨w3.heap.size, 0, none⟩ = some (.int .u64 v0) ∧ w'.cell? ⟨w3.heap.size, 1, none⟩ = some (.bool s0)) (ds := [4]) #[false, false, false, false, false] (by kernel_rfl) rfl rfl ⟨q0, q1⟩ (fun hHeld => ?_)
  refine pure_ (i := 0) (N := some 41) (v := ?_) (a' := ?_) #[true, false, false, false, false] rfl rfl (by kernel_rfl) (fun _ _ _ h => h) (Or.inl ⟨by rfl, ?_⟩) ?_ ?_
  rotate_left
  · intro w'
    go_simp
    with_reducible rfl
  rotate_left
  · simp only [Act.put, List.setIfInBounds_toArray, List.set_cons_zero, List.set_cons_succ, i64_w, i32_w]
    rfl
  refine take_ (i := 2) (N := some 43) (v := ?_) (a' := ?_) #[true, false, true, false, false] rfl rfl (by kernel_rfl) (fun _ _ _ h => h) (Or.inl ⟨by rfl, ?_⟩) hHeld ?_ ?_
  rotate_left
  · rintro w' ⟨s0, s1⟩
    go_simp
    with_reducible rfl
  rotate_left
  · simp only [Act.put, List.setIfInBounds_toArray, List.set_cons_zero, List.set_cons_succ, i64_w, i32_w]
    rfl
  refine one_ (i := 1) (N := some 42) #[true, true, true, false, false] rfl rfl (by kernel_rfl) (by decide) (fun K hK => ?_)
  refine call_ (89) #[.pointer (some ⟨cb, 0, none⟩)] (by rfl) rfl ?_ ?_
  · have he := eg_sf1
    go_simp
  with_reducible refine (sfl0 ⟨cb, 0, none⟩ xb _ hcb).mono ?_
  rintro e w5 ⟨rfl, rfl⟩
  refine ⟨_, rfl, ?_⟩
  refine hK.out _ _ ⟨q0, q1⟩ (fun hHeld => ?_)
  clear hK K
  refine norm_ (a' := ?_) ?_ ?_
  rotate_left
  · show Act.put _ (some 42) _ = _
    simp only [Act.put, List.setIfInBounds_toArray, List.set_cons_zero, List.set_cons_succ, i64_w, i32_w]
    rfl
  refine pure_ (i := 3) (N := some 44) (v := ?_) (a' := ?_) #[true, true, true, true, false] rfl rfl (by kernel_rfl) (fun _ _ _ h => h) (Or.inl ⟨by rfl, ?_⟩) ?_ ?_
  rotate_left
  · intro w'
    go_simp
    with_reducible rfl
  rotate_left
  · simp only [Act.put, List.setIfInBounds_toArray, List.set_cons_zero, List.set_cons_succ, i64_w, i32_w]
    rfl
  refine last_ (i := 4) (N := none) #[true, true, true, true, true] rfl rfl (by kernel_rfl) (by decide) (fun K hK => ?_)
  refine skip_ (w1 := ?_) (by rfl) rfl ?_ ?_
  rotate_left
  · go_simp
    rfl
  refine hK.out _ _ ?_
  clear hK K
  refine done_ (by kernel_rfl) ?_

  have hI5 := (hI4.put 0 1 _ _ (hI4.x.put0 v0 s0)).on (Below.drew (Below.refl _ _))
  clear hI4 q0 q1 hcb x0 x1 z0 z1 hHeld
  go_wp2_with fail
  generalize ((w4.setCell ⟨xb, 0, none⟩ _).setCell ⟨xb, 1, none⟩ _).drew = w2 at hI5 ⊢
  have hI := hI5
  clear hI5
  -- round 1
  rw [rounds_succ]
  have ix := sfi1
  have wk : w2.cell? ⟨A, 1, none⟩ = some (.string t1) := hI.ws 1 (by decide)
  go_wp2_with fail
  refine (p1 w2 hI.env (hErH.out.on hI.below) hI.g8).mono ?_
  rintro e w3 ⟨rfl, hb3⟩
  clear wk
  go_wp2
  generalize hW : w3.alloc (.cells #[.int .u64 v1, .bool s1] 24) = w4
  have hI4 : SpI w A xb cb [t0, t1, t2, t3, t4] _ w4 := hW ▸ (hI.on hb3).on ((Below.refl _ _).alloc (Nat.le_refl _) _)
  have q0 : w4.cell? ⟨w3.heap.size, 0, none⟩ = some (.int .u64 v1) := by subst hW; go_simp
  have q1 : w4.cell? ⟨w3.heap.size, 1, none⟩ = some (.bool s1) := by subst hW; go_simp
  have hcb : w4.drew.cell? ⟨cb, 0, none⟩ = some (.pointer (some ⟨xb, 0, none⟩)) := hI4.c
  have x0 := blk_cell hI4.x 2
  have x1 := blk_cell hI4.x 3
  have z0 := blk_frozen hI4.x 2
  have z1 := blk_frozen hI4.x 3
  simp only [List.getElem?_toArray, List.getElem?_cons_succ, List.getElem?_cons_zero] at x0 x1
  clear hI hb3 hW ix
  refine start_ (n := 5) (S := fun w' => w'.cell? ⟨w3.heap.size, 0, none⟩ = some (.int .u64 v1) ∧ w'.cell? ⟨w3.heap.size, 1, none⟩ = some (.bool s1)) (ds := [4]) #[false, false, false, false, false] (by kernel_rfl) rfl rfl ⟨q0, q1⟩ (fun hHeld => ?_)
  refine pure_ (i := 0) (N := some 41) (v := ?_) (a' := ?_) #[true, false, false, false, false] rfl rfl (by kernel_rfl) (fun _ _ _ h => h) (Or.inl ⟨by rfl, ?_⟩) ?_ ?_
  rotate_left
  · intro w'
    go_simp
    with_reducible rfl
  rotate_left
  · simp only [Act.put, List.setIfInBounds_toArray, List.set_cons_zero, List.set_cons_succ, i64_w, i32_w]
    rfl
  refine take_ (i := 2) (N := some 43) (v := ?_) (a' := ?_) #[true, false, true, false, false] rfl rfl (by kernel_rfl) (fun _ _ _ h => h) (Or.inl ⟨by rfl, ?_⟩) hHeld ?_ ?_
  rotate_left
  · rintro w' ⟨s0, s1⟩
    go_simp
    with_reducible rfl
  rotate_left
  · simp only [Act.put, List.setIfInBounds_toArray, List.set_cons_zero, List.set_cons_succ, i64_w, i32_w]
    rfl
  refine one_ (i := 1) (N := some 42) #[true, true, true, false, false] rfl rfl (by kernel_rfl) (by decide) (fun K hK => ?_)
  refine call_ (90) #[.pointer (some ⟨cb, 0, none⟩)] (by rfl) rfl ?_ ?_
  · have he := eg_sf2
    go_simp
  with_reducible refine (sfl1 ⟨cb, 0, none⟩ xb _ hcb).mono ?_
  rintro e w5 ⟨rfl, rfl⟩
  refine ⟨_, rfl, ?_⟩
  refine hK.out _ _ ⟨q0, q1⟩ (fun hHeld => ?_)
  clear hK K
  refine norm_ (a' := ?_) ?_ ?_
  rotate_left
  · show Act.put _ (some 42) _ = _
    simp only [Act.put, List.setIfInBounds_toArray, List.set_cons_zero, List.set_cons_succ, i64_w, i32_w]
    rfl
  refine pure_ (i := 3) (N := some 44) (v := ?_) (a' := ?_) #[true, true, true, true, false] rfl rfl (by kernel_rfl) (fun _ _ _ h => h) (Or.inl ⟨by rfl, ?_⟩) ?_ ?_
  rotate_left
  · intro w'
    go_simp
    with_reducible rfl
  rotate_left
  · simp only [Act.put, List.setIfInBounds_toArray, List.set_cons_zero, List.set_cons_succ, i64_w, i32_w]
    rfl
  refine last_ (i := 4) (N := none) #[true, true, true, true, true] rfl rfl (by kernel_rfl) (by decide) (fun K hK => ?_)
  refine skip_ (w1 := ?_) (by rfl) rfl ?_ ?_
  rotate_left
  · go_simp
    rfl
  refine hK.out _ _ ?_
  clear hK K
  refine done_ (by kernel_rfl) ?_

  have hI5 := (hI4.put 2 3 _ _ (hI4.x.put1 v1 s1)).on (Below.drew (Below.refl _ _))
  clear hI4 q0 q1 hcb x0 x1 z0 z1 hHeld
  go_wp2_with fail
  generalize ((w4.setCell ⟨xb, 2, none⟩ _).setCell ⟨xb, 3, none⟩ _).drew = w2 at hI5 ⊢
  have hI := hI5
  clear hI5
  -- round 2
  rw [rounds_succ]
  have ix := sfi2
  have wk : w2.cell? ⟨A, 2, none⟩ = some (.string t2) := hI.ws 2 (by decide)
  go_wp2_with fail
  refine (p2 w2 hI.env (hErH.out.on hI.below) hI.g8).mono ?_
  rintro e w3 ⟨rfl, hb3⟩
  clear wk
  go_wp2
  generalize hW : w3.alloc (.cells #[.int .u64 v2, .bool s2] 24) = w4
  have hI4 : SpI w A xb cb [t0, t1, t2, t3, t4] _ w4 := hW ▸ (hI.on hb3).on ((Below.refl _ _).alloc (Nat.le_refl _) _)
  have q0 : w4.cell? ⟨w3.heap.size, 0, none⟩ = some (.int .u64 v2) := by subst hW; go_simp
  have q1 : w4.cell? ⟨w3.heap.size, 1, none⟩ = some (.bool s2) := by subst hW; go_simp
  have hcb : w4.drew.cell? ⟨cb, 0, none⟩ = some (.pointer (some ⟨xb, 0, none⟩)) := hI4.c
  have x0 := blk_cell hI4.x 4
  have x1 := blk_cell hI4.x 5
  have z0 := blk_frozen hI4.x 4
  have z1 := blk_frozen hI4.x 5
  simp only [List.getElem?_toArray, List.getElem?_cons_succ, List.getElem?_cons_zero] at x0 x1
  clear hI hb3 hW ix
  refine start_ (n := 5) (S := fun w' => w'.cell? ⟨w3.heap.size, 0, none⟩ = some (.int .u64 v2) ∧ w'.cell? ⟨w3.heap.size, 1, none⟩ = some (.bool s2)) (ds := [4]) #[false, false, false, false, false] (by kernel_rfl) rfl rfl ⟨q0, q1⟩ (fun hHeld => ?_)
  refine pure_ (i := 0) (N := some 41) (v := ?_) (a' := ?_) #[true, false, false, false, false] rfl rfl (by kernel_rfl) (fun _ _ _ h => h) (Or.inl ⟨by rfl, ?_⟩) ?_ ?_
  rotate_left
  · intro w'
    go_simp
    with_reducible rfl
  rotate_left
  · simp only [Act.put, List.setIfInBounds_toArray, List.set_cons_zero, List.set_cons_succ, i64_w, i32_w]
    rfl
  refine take_ (i := 2) (N := some 43) (v := ?_) (a' := ?_) #[true, false, true, false, false] rfl rfl (by kernel_rfl) (fun _ _ _ h => h) (Or.inl ⟨by rfl, ?_⟩) hHeld ?_ ?_
  rotate_left
  · rintro w' ⟨s0, s1⟩
    go_simp
    with_reducible rfl
  rotate_left
  · simp only [Act.put, List.setIfInBounds_toArray, List.set_cons_zero, List.set_cons_succ, i64_w, i32_w]
    rfl
  refine one_ (i := 1) (N := some 42) #[true, true, true, false, false] rfl rfl (by kernel_rfl) (by decide) (fun K hK => ?_)
  refine call_ (91) #[.pointer (some ⟨cb, 0, none⟩)] (by rfl) rfl ?_ ?_
  · have he := eg_sf3
    go_simp
  with_reducible refine (sfl2 ⟨cb, 0, none⟩ xb _ hcb).mono ?_
  rintro e w5 ⟨rfl, rfl⟩
  refine ⟨_, rfl, ?_⟩
  refine hK.out _ _ ⟨q0, q1⟩ (fun hHeld => ?_)
  clear hK K
  refine norm_ (a' := ?_) ?_ ?_
  rotate_left
  · show Act.put _ (some 42) _ = _
    simp only [Act.put, List.setIfInBounds_toArray, List.set_cons_zero, List.set_cons_succ, i64_w, i32_w]
    rfl
  refine pure_ (i := 3) (N := some 44) (v := ?_) (a' := ?_) #[true, true, true, true, false] rfl rfl (by kernel_rfl) (fun _ _ _ h => h) (Or.inl ⟨by rfl, ?_⟩) ?_ ?_
  rotate_left
  · intro w'
    go_simp
    with_reducible rfl
  rotate_left
  · simp only [Act.put, List.setIfInBounds_toArray, List.set_cons_zero, List.set_cons_succ, i64_w, i32_w]
    rfl
  refine last_ (i := 4) (N := none) #[true, true, true, true, true] rfl rfl (by kernel_rfl) (by decide) (fun K hK => ?_)
  refine skip_ (w1 := ?_) (by rfl) rfl ?_ ?_
  rotate_left
  · go_simp
    rfl
  refine hK.out _ _ ?_
  clear hK K
  refine done_ (by kernel_rfl) ?_

  have hI5 := (hI4.put 4 5 _ _ (hI4.x.put2 v2 s2)).on (Below.drew (Below.refl _ _))
  clear hI4 q0 q1 hcb x0 x1 z0 z1 hHeld
  go_wp2_with fail
  generalize ((w4.setCell ⟨xb, 4, none⟩ _).setCell ⟨xb, 5, none⟩ _).drew = w2 at hI5 ⊢
  have hI := hI5
  clear hI5
  -- round 3
  rw [rounds_succ]
  have ix := sfi3
  have wk : w2.cell? ⟨A, 3, none⟩ = some (.string t3) := hI.ws 3 (by decide)
  go_wp2_with fail
  refine (p3 w2 hI.env (hErH.out.on hI.below) hI.g8).mono ?_
  rintro e w3 ⟨rfl, hb3⟩
  clear wk
  go_wp2
  generalize hW : w3.alloc (.cells #[.int .u64 v3, .bool s3] 24) = w4
  have hI4 : SpI w A xb cb [t0, t1, t2, t3, t4] _ w4 := hW ▸ (hI.on hb3).on ((Below.refl _ _).alloc (Nat.le_refl _) _)
  have q0 : w4.cell? ⟨w3.heap.size, 0, none⟩ = some (.int .u64 v3) := by subst hW; go_simp
  have q1 : w4.cell? ⟨w3.heap.size, 1, none⟩ = some (.bool s3) := by subst hW; go_simp
  have hcb : w4.drew.cell? ⟨cb, 0, none⟩ = some (.pointer (some ⟨xb, 0, none⟩)) := hI4.c
  have x0 := blk_cell hI4.x 6
  have x1 := blk_cell hI4.x 7
  have z0 := blk_frozen hI4.x 6
  have z1 := blk_frozen hI4.x 7
  simp only [List.getElem?_toArray, List.getElem?_cons_succ, List.getElem?_cons_zero] at x0 x1
  clear hI hb3 hW ix
  refine start_ (n := 5) (S := fun w' => w'.cell? ⟨w3.heap.size, 0, none⟩ = some (.int .u64 v3) ∧ w'.cell? ⟨w3.heap.size, 1, none⟩ = some (.bool s3)) (ds := [4]) #[false, false, false, false, false] (by kernel_rfl) rfl rfl ⟨q0, q1⟩ (fun hHeld => ?_)
  refine pure_ (i := 0) (N := some 41) (v := ?_) (a' := ?_) #[true, false, false, false, false] rfl rfl (by kernel_rfl) (fun _ _ _ h => h) (Or.inl ⟨by rfl, ?_⟩) ?_ ?_
  rotate_left
  · intro w'
    go_simp
    with_reducible rfl
  rotate_left
  · simp only [Act.put, List.setIfInBounds_toArray, List.set_cons_zero, List.set_cons_succ, i64_w, i32_w]
    rfl
  refine take_ (i := 2) (N := some 43) (v := ?_) (a' := ?_) #[true, false, true, false, false] rfl rfl (by kernel_rfl) (fun _ _ _ h => h) (Or.inl ⟨by rfl, ?_⟩) hHeld ?_ ?_
  rotate_left
  · rintro w' ⟨s0, s1⟩
    go_simp
    with_reducible rfl
  rotate_left
  · simp only [Act.put, List.setIfInBounds_toArray, List.set_cons_zero, List.set_cons_succ, i64_w, i32_w]
    rfl
  refine one_ (i := 1) (N := some 42) #[true, true, true, false, false] rfl rfl (by kernel_rfl) (by decide) (fun K hK => ?_)
  refine call_ (92) #[.pointer (some ⟨cb, 0, none⟩)] (by rfl) rfl ?_ ?_
  · have he := eg_sf4
    go_simp
  with_reducible refine (sfl3 ⟨cb, 0, none⟩ xb _ hcb).mono ?_
  rintro e w5 ⟨rfl, rfl⟩
  refine ⟨_, rfl, ?_⟩
  refine hK.out _ _ ⟨q0, q1⟩ (fun hHeld => ?_)
  clear hK K
  refine norm_ (a' := ?_) ?_ ?_
  rotate_left
  · show Act.put _ (some 42) _ = _
    simp only [Act.put, List.setIfInBounds_toArray, List.set_cons_zero, List.set_cons_succ, i64_w, i32_w]
    rfl
  refine pure_ (i := 3) (N := some 44) (v := ?_) (a' := ?_) #[true, true, true, true, false] rfl rfl (by kernel_rfl) (fun _ _ _ h => h) (Or.inl ⟨by rfl, ?_⟩) ?_ ?_
  rotate_left
  · intro w'
    go_simp
    with_reducible rfl
  rotate_left
  · simp only [Act.put, List.setIfInBounds_toArray, List.set_cons_zero, List.set_cons_succ, i64_w, i32_w]
    rfl
  refine last_ (i := 4) (N := none) #[true, true, true, true, true] rfl rfl (by kernel_rfl) (by decide) (fun K hK => ?_)
  refine skip_ (w1 := ?_) (by rfl) rfl ?_ ?_
  rotate_left
  · go_simp
    rfl
  refine hK.out _ _ ?_
  clear hK K
  refine done_ (by kernel_rfl) ?_

  have hI5 := (hI4.put 6 7 _ _ (hI4.x.put3 v3 s3)).on (Below.drew (Below.refl _ _))
  clear hI4 q0 q1 hcb x0 x1 z0 z1 hHeld
  go_wp2_with fail
  generalize ((w4.setCell ⟨xb, 6, none⟩ _).setCell ⟨xb, 7, none⟩ _).drew = w2 at hI5 ⊢
  have hI := hI5
  clear hI5
  -- round 4
  rw [rounds_succ]
  have ix := sfi4
  have wk : w2.cell? ⟨A, 4, none⟩ = some (.string t4) := hI.ws 4 (by decide)
  go_wp2_with fail
  refine (pe w2 hI.env (hErH.out.on hI.below) hI.g8).mono ?_
  rintro e w3 ⟨rfl, hb3⟩
  clear wk
  have hI4 := (hI.on hb3).on ((Below.refl _ _).alloc (Nat.le_refl _) (.cells #[.int .u64 0, .bool false] 24))
  have hB1 := hI4.below
  have hr1 := hI4.r
  clear hI hb3 hI4 ix
  obtain ⟨d0, d1, d2, d3, d4, d5, d6, d7, d8, d9⟩ := hr1.spIn
  obtain ⟨z0, z1, z2, z3, z4, z5, z6, z7, z8, z9⟩ := hr1.fz
  have hr1H := Lib.hid hr1
  clear hr1
  go_wp2
  have hB9 : Below w.heap.size w (((((((((((w3.alloc (.cells #[.int .u64 0, .bool false] 24)).setCell ⟨w.heap.size, 0, none⟩ (.int .u64 0)).setCell ⟨w.heap.size, 1, none⟩ (.bool false)).setCell ⟨w.heap.size, 2, none⟩ (.int .u64 0)).setCell ⟨w.heap.size, 3, none⟩ (.bool false)).setCell ⟨w.heap.size, 4, none⟩ (.int .u64 0)).setCell ⟨w.heap.size, 5, none⟩ (.bool false)).setCell ⟨w.heap.size, 6, none⟩ (.int .u64 0)).setCell ⟨w.heap.size, 7, none⟩ (.bool false)).setCell ⟨w.heap.size, 8, none⟩ (.int .u64 0)).setCell ⟨w.heap.size, 9, none⟩ (.bool false)) := ((((((((((hB1.setCell (p := ⟨w.heap.size, 0, none⟩) (Nat.le_refl _) _).setCell (p := ⟨w.heap.size, 1, none⟩) (Nat.le_refl _) _).setCell (p := ⟨w.heap.size, 2, none⟩) (Nat.le_refl _) _).setCell (p := ⟨w.heap.size, 3, none⟩) (Nat.le_refl _) _).setCell (p := ⟨w.heap.size, 4, none⟩) (Nat.le_refl _) _).setCell (p := ⟨w.heap.size, 5, none⟩) (Nat.le_refl _) _).setCell (p := ⟨w.heap.size, 6, none⟩) (Nat.le_refl _) _).setCell (p := ⟨w.heap.size, 7, none⟩) (Nat.le_refl _) _).setCell (p := ⟨w.heap.size, 8, none⟩) (Nat.le_refl _) _).setCell (p := ⟨w.heap.size, 9, none⟩) (Nat.le_refl _) _)
  have hr9 : SpB (((((((((((w3.alloc (.cells #[.int .u64 0, .bool false] 24)).setCell ⟨w.heap.size, 0, none⟩ (.int .u64 0)).setCell ⟨w.heap.size, 1, none⟩ (.bool false)).setCell ⟨w.heap.size, 2, none⟩ (.int .u64 0)).setCell ⟨w.heap.size, 3, none⟩ (.bool false)).setCell ⟨w.heap.size, 4, none⟩ (.int .u64 0)).setCell ⟨w.heap.size, 5, none⟩ (.bool false)).setCell ⟨w.heap.size, 6, none⟩ (.int .u64 0)).setCell ⟨w.heap.size, 7, none⟩ (.bool false)).setCell ⟨w.heap.size, 8, none⟩ (.int .u64 0)).setCell ⟨w.heap.size, 9, none⟩ (.bool false)) w.heap.size sp0 := (((((hr1H.out.put0 0 false).put1 0 false).put2 0 false).put3 0 false).put4 0 false)
  clear d0 d1 d2 d3 d4 d5 d6 d7 d8 d9 z0 z1 z2 z3 z4 z5 z6 z7 z8 z9
  generalize (((((((((((w3.alloc (.cells #[.int .u64 0, .bool false] 24)).setCell ⟨w.heap.size, 0, none⟩ (.int .u64 0)).setCell ⟨w.heap.size, 1, none⟩ (.bool false)).setCell ⟨w.heap.size, 2, none⟩ (.int .u64 0)).setCell ⟨w.heap.size, 3, none⟩ (.bool false)).setCell ⟨w.heap.size, 4, none⟩ (.int .u64 0)).setCell ⟨w.heap.size, 5, none⟩ (.bool false)).setCell ⟨w.heap.size, 6, none⟩ (.int .u64 0)).setCell ⟨w.heap.size, 7, none⟩ (.bool false)).setCell ⟨w.heap.size, 8, none⟩ (.int .u64 0)).setCell ⟨w.heap.size, 9, none⟩ (.bool false)) = w9 at *
  obtain ⟨c0, c1, c2, c3, c4, c5, c6, c7, c8, c9⟩ := hr9.spIn
  refine bodyPost_ret (v := .tuple #[.agg #[.int .u64 sp0.m.b, .bool sp0.m.s, .int .u64 sp0.h.b, .bool sp0.h.s, .int .u64 sp0.d.b, .bool sp0.d.s, .int .u64 sp0.n.b, .bool sp0.n.s, .int .u64 sp0.w.b, .bool sp0.w.s], .int .i64 5, .int .i64 e0]) (by simp [results, Tryz.results34, go_sem, c0, c1, c2, c3, c4, c5, c6, c7, c8, c9]) rfl ⟨rfl, hB9⟩

end Go.Proofs.YtkdejfedigiohaaGreatDoor
