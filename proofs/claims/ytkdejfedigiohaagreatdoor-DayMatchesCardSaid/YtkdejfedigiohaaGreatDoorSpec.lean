/- The five fields of a spec: what they are told by, and what is wrong with them. -/
import Derived.Test.YtkdejfedigiohaaGreatDoorFld
import Derived.Test.YtkdejfedigiohaaGreatDoorCivil2
import Derived.LoopN
import Derived.Laws.EntriesVeiled
namespace Go.Proofs.YtkdejfedigiohaaGreatDoor
open Go.RowKit Go.Proofs.YtkdejfedigiohaaGreatDoorW.PrintWords Go.Proofs.YtkdejfedigiohaaGreatDoorW.PrintLast Go.Proofs.YtkdejfedigiohaaGreatDoorW.PrintMore
set_option linter.unusedVariables false
set_option linter.unusedSimpArgs false


structure Fd where
  b : Int
  s : Bool
structure Sp where
  m : Fd
  h : Fd
  d : Fd
  n : Fd
  w : Fd
/-- All five fields' bits are in range. -/
structure Sp.Ok (x : Sp) : Prop where
  m : U64 x.m.b
  h : U64 x.h.b
  d : U64 x.d.b
  n : U64 x.n.b
  w : U64 x.w.b
/-- The first field that is wrong, by its number, and what is wrong with it. -/
def spChk (x : Sp) : Int × Int :=
  if chkI x.m.b x.m.s 0 ≠ 0 then (1, chkI x.m.b x.m.s 0) else if chkI x.h.b x.h.s 1 ≠ 0 then (2, chkI x.h.b x.h.s 1) else if chkI x.d.b x.d.s 2 ≠ 0 then (3, chkI x.d.b x.d.s 2)
  else if chkI x.n.b x.n.s 3 ≠ 0 then (4, chkI x.n.b x.n.s 3) else if chkI x.w.b x.w.s 4 ≠ 0 then (5, chkI x.w.b x.w.s 4) else (0, 0)

theorem eg_sf1 (args : Array Value) (w : World) : (callFunc 89 args).run Tryz.prog w = .ok (.enter 89 args) w := by kernel_rfl
theorem eg_sf2 (args : Array Value) (w : World) : (callFunc 90 args).run Tryz.prog w = .ok (.enter 90 args) w := by kernel_rfl
theorem eg_sf3 (args : Array Value) (w : World) : (callFunc 91 args).run Tryz.prog w = .ok (.enter 91 args) w := by kernel_rfl
theorem eg_sf4 (args : Array Value) (w : World) : (callFunc 92 args).run Tryz.prog w = .ok (.enter 92 args) w := by kernel_rfl
theorem eg_sf5 (args : Array Value) (w : World) : (callFunc 93 args).run Tryz.prog w = .ok (.enter 93 args) w := by kernel_rfl
theorem sf1_q (c : Addr) (b off : Nat) (W : World) (hc : W.cell? c = some (.pointer (some ⟨b, off, none⟩))) :
    Calls Tryz.prog 89 #[.pointer (some c)] W fun e w' => e = .returned (.pointer (some ⟨b, off, none⟩)) ∧ W = w' := by
  go_enter Tryz.func89, Tryz.ntmps89
  go_wp2
  go_ret
  exact ⟨rfl, rfl⟩
theorem sf2_q (c : Addr) (b off : Nat) (W : World) (hc : W.cell? c = some (.pointer (some ⟨b, off, none⟩))) :
    Calls Tryz.prog 90 #[.pointer (some c)] W fun e w' => e = .returned (.pointer (some ⟨b, off + 2, none⟩)) ∧ W = w' := by
  go_enter Tryz.func90, Tryz.ntmps90
  go_wp2
  go_ret
  exact ⟨rfl, rfl⟩
theorem sf3_q (c : Addr) (b off : Nat) (W : World) (hc : W.cell? c = some (.pointer (some ⟨b, off, none⟩))) :
    Calls Tryz.prog 91 #[.pointer (some c)] W fun e w' => e = .returned (.pointer (some ⟨b, off + 4, none⟩)) ∧ W = w' := by
  go_enter Tryz.func91, Tryz.ntmps91
  go_wp2
  go_ret
  exact ⟨rfl, rfl⟩
theorem sf4_q (c : Addr) (b off : Nat) (W : World) (hc : W.cell? c = some (.pointer (some ⟨b, off, none⟩))) :
    Calls Tryz.prog 92 #[.pointer (some c)] W fun e w' => e = .returned (.pointer (some ⟨b, off + 6, none⟩)) ∧ W = w' := by
  go_enter Tryz.func92, Tryz.ntmps92
  go_wp2
  go_ret
  exact ⟨rfl, rfl⟩
theorem sf5_q (c : Addr) (b off : Nat) (W : World) (hc : W.cell? c = some (.pointer (some ⟨b, off, none⟩))) :
    Calls Tryz.prog 93 #[.pointer (some c)] W fun e w' => e = .returned (.pointer (some ⟨b, off + 8, none⟩)) ∧ W = w' := by
  go_enter Tryz.func93, Tryz.ntmps93
  go_wp2
  go_ret
  exact ⟨rfl, rfl⟩
theorem fields_any (a : Addr) (w : World) :
    Calls Tryz.prog 55 #[.pointer (some a)] w fun e w' => e = .returned (.agg #[.func (.func 89) #[] #[.pointer (some ⟨w.heap.size, 0, none⟩)],
      .func (.func 90) #[] #[.pointer (some ⟨w.heap.size, 0, none⟩)], .func (.func 91) #[] #[.pointer (some ⟨w.heap.size, 0, none⟩)],
      .func (.func 92) #[] #[.pointer (some ⟨w.heap.size, 0, none⟩)], .func (.func 93) #[] #[.pointer (some ⟨w.heap.size, 0, none⟩)]])
      ∧ w'.cell? ⟨w.heap.size, 0, none⟩ = some (.pointer (some a)) ∧ w.heap.size < w'.heap.size ∧ Below w.heap.size w w' := by
  go_enter Tryz.func55, Tryz.ntmps55
  go_wp2
  refine bodyPost_ret (v := .agg #[.func (.func 89) #[] #[.pointer (some ⟨w.heap.size, 0, none⟩)], .func (.func 90) #[] #[.pointer (some ⟨w.heap.size, 0, none⟩)], .func (.func 91) #[] #[.pointer (some ⟨w.heap.size, 0, none⟩)], .func (.func 92) #[] #[.pointer (some ⟨w.heap.size, 0, none⟩)], .func (.func 93) #[] #[.pointer (some ⟨w.heap.size, 0, none⟩)]]) (by simp [results, Tryz.results55, go_sem]) rfl ⟨rfl, ?_, ?_, ?_⟩
  · go_simp
  · simp; omega
  · (repeat' (first | (with_reducible assumption) | (with_reducible refine Below.setCell ?_ ?_ _) | (with_reducible refine Below.alloc ?_ ?_ _) | (with_reducible refine Below.drew ?_) | (with_reducible refine Below.drewN ?_ _) | (with_reducible exact Below.refl _ _) | (with_reducible exact Nat.le_refl _) | omega | (dsimp only; omega) | (simp; done) | (simp; omega)))
theorem sfi0 (c : Addr) (w : World) : (Instr.index 79 (.agg #[.func (.func 89) #[] #[.pointer (some c)], .func (.func 90) #[] #[.pointer (some c)], .func (.func 91) #[] #[.pointer (some c)], .func (.func 92) #[] #[.pointer (some c)], .func (.func 93) #[] #[.pointer (some c)]]) (.int .i64 0)).run Tryz.prog w = .ok (.func (.func 89) #[] #[.pointer (some c)]) w := by kernel_rfl
theorem sfi1 (c : Addr) (w : World) : (Instr.index 79 (.agg #[.func (.func 89) #[] #[.pointer (some c)], .func (.func 90) #[] #[.pointer (some c)], .func (.func 91) #[] #[.pointer (some c)], .func (.func 92) #[] #[.pointer (some c)], .func (.func 93) #[] #[.pointer (some c)]]) (.int .i64 1)).run Tryz.prog w = .ok (.func (.func 90) #[] #[.pointer (some c)]) w := by kernel_rfl
theorem sfi2 (c : Addr) (w : World) : (Instr.index 79 (.agg #[.func (.func 89) #[] #[.pointer (some c)], .func (.func 90) #[] #[.pointer (some c)], .func (.func 91) #[] #[.pointer (some c)], .func (.func 92) #[] #[.pointer (some c)], .func (.func 93) #[] #[.pointer (some c)]]) (.int .i64 2)).run Tryz.prog w = .ok (.func (.func 91) #[] #[.pointer (some c)]) w := by kernel_rfl
theorem sfi3 (c : Addr) (w : World) : (Instr.index 79 (.agg #[.func (.func 89) #[] #[.pointer (some c)], .func (.func 90) #[] #[.pointer (some c)], .func (.func 91) #[] #[.pointer (some c)], .func (.func 92) #[] #[.pointer (some c)], .func (.func 93) #[] #[.pointer (some c)]]) (.int .i64 3)).run Tryz.prog w = .ok (.func (.func 92) #[] #[.pointer (some c)]) w := by kernel_rfl
theorem sfi4 (c : Addr) (w : World) : (Instr.index 79 (.agg #[.func (.func 89) #[] #[.pointer (some c)], .func (.func 90) #[] #[.pointer (some c)], .func (.func 91) #[] #[.pointer (some c)], .func (.func 92) #[] #[.pointer (some c)], .func (.func 93) #[] #[.pointer (some c)]]) (.int .i64 4)).run Tryz.prog w = .ok (.func (.func 93) #[] #[.pointer (some c)]) w := by kernel_rfl

/-- The cells of a spec's box. -/
def SpIn (W : World) (b : Nat) (x : Sp) : Prop :=
  W.cell? ⟨b, 0, none⟩ = some (.int .u64 x.m.b) ∧ W.cell? ⟨b, 1, none⟩ = some (.bool x.m.s) ∧ W.cell? ⟨b, 2, none⟩ = some (.int .u64 x.h.b) ∧ W.cell? ⟨b, 3, none⟩ = some (.bool x.h.s)
  ∧ W.cell? ⟨b, 4, none⟩ = some (.int .u64 x.d.b) ∧ W.cell? ⟨b, 5, none⟩ = some (.bool x.d.s) ∧ W.cell? ⟨b, 6, none⟩ = some (.int .u64 x.n.b) ∧ W.cell? ⟨b, 7, none⟩ = some (.bool x.n.s)
  ∧ W.cell? ⟨b, 8, none⟩ = some (.int .u64 x.w.b) ∧ W.cell? ⟨b, 9, none⟩ = some (.bool x.w.s)
theorem SpIn.below {W W' : World} {b B : Nat} {x : Sp} (h : SpIn W b x) (hb : Below B W W') (hlt : b < B) : SpIn W' b x := by
  unfold SpIn at h ⊢
  simp only [fun o => hb.cell (p := ⟨b, o, none⟩) hlt]
  exact h

/-- The fields ahead of the k-th are in order. -/
def okTo (k : Nat) (x : Sp) : Prop := (0 < k → chkI x.m.b x.m.s 0 = 0) ∧ (1 < k → chkI x.h.b x.h.s 1 = 0) ∧ (2 < k → chkI x.d.b x.d.s 2 = 0) ∧ (3 < k → chkI x.n.b x.n.s 3 = 0) ∧ (4 < k → chkI x.w.b x.w.s 4 = 0)
theorem okTo_zero (x : Sp) : okTo 0 x := by simp [okTo]
theorem okTo_step0 {x : Sp} (h : okTo 0 x) (hc : chkI x.m.b x.m.s 0 = 0) : okTo 1 x := by simp [okTo] at h ⊢; simp [h, hc]
theorem okTo_bad0 {x : Sp} (h : okTo 0 x) (hc : chkI x.m.b x.m.s 0 ≠ 0) : spChk x = (1, chkI x.m.b x.m.s 0) := by simp [okTo] at h; simp [spChk, h, hc]
theorem okTo_step1 {x : Sp} (h : okTo 1 x) (hc : chkI x.h.b x.h.s 1 = 0) : okTo 2 x := by simp [okTo] at h ⊢; simp [h, hc]
theorem okTo_bad1 {x : Sp} (h : okTo 1 x) (hc : chkI x.h.b x.h.s 1 ≠ 0) : spChk x = (2, chkI x.h.b x.h.s 1) := by simp [okTo] at h; simp [spChk, h, hc]
theorem okTo_step2 {x : Sp} (h : okTo 2 x) (hc : chkI x.d.b x.d.s 2 = 0) : okTo 3 x := by simp [okTo] at h ⊢; simp [h, hc]
theorem okTo_bad2 {x : Sp} (h : okTo 2 x) (hc : chkI x.d.b x.d.s 2 ≠ 0) : spChk x = (3, chkI x.d.b x.d.s 2) := by simp [okTo] at h; simp [spChk, h, hc]
theorem okTo_step3 {x : Sp} (h : okTo 3 x) (hc : chkI x.n.b x.n.s 3 = 0) : okTo 4 x := by simp [okTo] at h ⊢; simp [h, hc]
theorem okTo_bad3 {x : Sp} (h : okTo 3 x) (hc : chkI x.n.b x.n.s 3 ≠ 0) : spChk x = (4, chkI x.n.b x.n.s 3) := by simp [okTo] at h; simp [spChk, h, hc]
theorem okTo_step4 {x : Sp} (h : okTo 4 x) (hc : chkI x.w.b x.w.s 4 = 0) : okTo 5 x := by simp [okTo] at h ⊢; simp [h, hc]
theorem okTo_bad4 {x : Sp} (h : okTo 4 x) (hc : chkI x.w.b x.w.s 4 ≠ 0) : spChk x = (5, chkI x.w.b x.w.s 4) := by simp [okTo] at h; simp [spChk, h, hc]
theorem okTo_all {x : Sp} (h : okTo 5 x) : spChk x = (0, 0) := by simp [okTo] at h; simp [spChk, h]

set_option maxRecDepth 100000 in
set_option maxHeartbeats 2000000 in
theorem spCheck_any (x : Sp) (w : World) (hx : x.Ok) :
    Calls Tryz.prog 66 #[.agg #[.int .u64 x.m.b, .bool x.m.s, .int .u64 x.h.b, .bool x.h.s, .int .u64 x.d.b, .bool x.d.s, .int .u64 x.n.b, .bool x.n.s, .int .u64 x.w.b, .bool x.w.s]] w fun e w' => e = .returned (.tuple #[.int .i64 (spChk x).1, .int .i64 (spChk x).2]) ∧ Below w.heap.size w w' := by
  go_enter Tryz.func66, Tryz.ntmps66
  go_wp2_with fail
  have hS : SpIn (w.alloc (.cells #[.int .u64 x.m.b, .bool x.m.s, .int .u64 x.h.b, .bool x.h.s, .int .u64 x.d.b, .bool x.d.s, .int .u64 x.n.b, .bool x.n.s, .int .u64 x.w.b, .bool x.w.s] 26)) w.heap.size x := by unfold SpIn; go_simp
  refine (fields_any _ _).mono ?_
  rintro e w1 ⟨rfl, hp, hsz, hb⟩
  have hS1 := hS.below hb (by simp)
  have hb0 : Below w.heap.size w w1 := ((Below.refl _ _).alloc (Nat.le_refl _) _).trans (hb.mono (by simp))
  have hlt : w.heap.size + 1 < w1.heap.size := by simp at hsz; omega
  clear hS hb hsz
  go_wp2
  simp only [World.size_alloc] at hp
  go_loopg [8] 5 (fun g v8 W => ∃ k : Nat, k + g = 5 ∧ v8 = .int .i64 k ∧ Hid (okTo k x) ∧ Below w1.heap.size w1 W)
  case atStart => exact ⟨0, rfl, rfl, okTo_zero x, Below.refl _ _⟩
  case round =>
    obtain ⟨k, hk, rfl, hI, hB⟩ := hrel
    have hp' := (hB.cell (p := ⟨w.heap.size + 1, 0, none⟩) hlt).trans hp
    obtain ⟨c0, c1, c2, c3, c4, c5, c6, c7, c8, c9⟩ := hS1.below hB (by omega)
    obtain rfl | rfl | rfl | rfl | rfl | rfl : k = 0 ∨ k = 1 ∨ k = 2 ∨ k = 3 ∨ k = 4 ∨ k = 5 := by omega
    · have i1 := sfi0
      by_cases hc : chkI x.m.b x.m.s 0 = 0
      · have hcb : (chkI x.m.b x.m.s 0 != 0) = false := by simp [hc]
        have hI2 := Lib.hid (okTo_step0 hI.out hc)
        clear hI hc
        go_wp2_with (first | (go_at_call 89; refine (sf1_q _ _ _ _ hp').mono ?_; rintro e w' ⟨rfl, rfl⟩) | (go_at_call 32; refine (check_any _ _ _ _ hx.m).mono ?_; rintro e W2 ⟨rfl, hb2⟩))
        go_roundg (gk - 1)
        case measure => omega
        case rel => exact ⟨1, by omega, rfl, hI2, hB.trans (hb2.mono hB.size)⟩
      · have hcb : (chkI x.m.b x.m.s 0 != 0) = true := by simp [hc]
        have hI2 := Lib.hid (okTo_bad0 hI.out hc)
        clear hI hc
        go_wp2_with (first | (go_at_call 89; refine (sf1_q _ _ _ _ hp').mono ?_; rintro e w' ⟨rfl, rfl⟩) | (go_at_call 32; refine (check_any _ _ _ _ hx.m).mono ?_; rintro e W2 ⟨rfl, hb2⟩))
        go_ret2
        rw [hI2.out]
        exact ⟨rfl, hb0.trans ((hB.trans (hb2.mono hB.size)).mono (by have := hb0.size; omega))⟩
    · have i1 := sfi1
      by_cases hc : chkI x.h.b x.h.s 1 = 0
      · have hcb : (chkI x.h.b x.h.s 1 != 0) = false := by simp [hc]
        have hI2 := Lib.hid (okTo_step1 hI.out hc)
        clear hI hc
        go_wp2_with (first | (go_at_call 90; refine (sf2_q _ _ _ _ hp').mono ?_; rintro e w' ⟨rfl, rfl⟩) | (go_at_call 32; refine (check_any _ _ _ _ hx.h).mono ?_; rintro e W2 ⟨rfl, hb2⟩))
        go_roundg (gk - 1)
        case measure => omega
        case rel => exact ⟨2, by omega, rfl, hI2, hB.trans (hb2.mono hB.size)⟩
      · have hcb : (chkI x.h.b x.h.s 1 != 0) = true := by simp [hc]
        have hI2 := Lib.hid (okTo_bad1 hI.out hc)
        clear hI hc
        go_wp2_with (first | (go_at_call 90; refine (sf2_q _ _ _ _ hp').mono ?_; rintro e w' ⟨rfl, rfl⟩) | (go_at_call 32; refine (check_any _ _ _ _ hx.h).mono ?_; rintro e W2 ⟨rfl, hb2⟩))
        go_ret2
        rw [hI2.out]
        exact ⟨rfl, hb0.trans ((hB.trans (hb2.mono hB.size)).mono (by have := hb0.size; omega))⟩
    · have i1 := sfi2
      by_cases hc : chkI x.d.b x.d.s 2 = 0
      · have hcb : (chkI x.d.b x.d.s 2 != 0) = false := by simp [hc]
        have hI2 := Lib.hid (okTo_step2 hI.out hc)
        clear hI hc
        go_wp2_with (first | (go_at_call 91; refine (sf3_q _ _ _ _ hp').mono ?_; rintro e w' ⟨rfl, rfl⟩) | (go_at_call 32; refine (check_any _ _ _ _ hx.d).mono ?_; rintro e W2 ⟨rfl, hb2⟩))
        go_roundg (gk - 1)
        case measure => omega
        case rel => exact ⟨3, by omega, rfl, hI2, hB.trans (hb2.mono hB.size)⟩
      · have hcb : (chkI x.d.b x.d.s 2 != 0) = true := by simp [hc]
        have hI2 := Lib.hid (okTo_bad2 hI.out hc)
        clear hI hc
        go_wp2_with (first | (go_at_call 91; refine (sf3_q _ _ _ _ hp').mono ?_; rintro e w' ⟨rfl, rfl⟩) | (go_at_call 32; refine (check_any _ _ _ _ hx.d).mono ?_; rintro e W2 ⟨rfl, hb2⟩))
        go_ret2
        rw [hI2.out]
        exact ⟨rfl, hb0.trans ((hB.trans (hb2.mono hB.size)).mono (by have := hb0.size; omega))⟩
    · have i1 := sfi3
      by_cases hc : chkI x.n.b x.n.s 3 = 0
      · have hcb : (chkI x.n.b x.n.s 3 != 0) = false := by simp [hc]
        have hI2 := Lib.hid (okTo_step3 hI.out hc)
        clear hI hc
        go_wp2_with (first | (go_at_call 92; refine (sf4_q _ _ _ _ hp').mono ?_; rintro e w' ⟨rfl, rfl⟩) | (go_at_call 32; refine (check_any _ _ _ _ hx.n).mono ?_; rintro e W2 ⟨rfl, hb2⟩))
        go_roundg (gk - 1)
        case measure => omega
        case rel => exact ⟨4, by omega, rfl, hI2, hB.trans (hb2.mono hB.size)⟩
      · have hcb : (chkI x.n.b x.n.s 3 != 0) = true := by simp [hc]
        have hI2 := Lib.hid (okTo_bad3 hI.out hc)
        clear hI hc
        go_wp2_with (first | (go_at_call 92; refine (sf4_q _ _ _ _ hp').mono ?_; rintro e w' ⟨rfl, rfl⟩) | (go_at_call 32; refine (check_any _ _ _ _ hx.n).mono ?_; rintro e W2 ⟨rfl, hb2⟩))
        go_ret2
        rw [hI2.out]
        exact ⟨rfl, hb0.trans ((hB.trans (hb2.mono hB.size)).mono (by have := hb0.size; omega))⟩
    · have i1 := sfi4
      by_cases hc : chkI x.w.b x.w.s 4 = 0
      · have hcb : (chkI x.w.b x.w.s 4 != 0) = false := by simp [hc]
        have hI2 := Lib.hid (okTo_step4 hI.out hc)
        clear hI hc
        go_wp2_with (first | (go_at_call 93; refine (sf5_q _ _ _ _ hp').mono ?_; rintro e w' ⟨rfl, rfl⟩) | (go_at_call 32; refine (check_any _ _ _ _ hx.w).mono ?_; rintro e W2 ⟨rfl, hb2⟩))
        go_roundg (gk - 1)
        case measure => omega
        case rel => exact ⟨5, by omega, rfl, hI2, hB.trans (hb2.mono hB.size)⟩
      · have hcb : (chkI x.w.b x.w.s 4 != 0) = true := by simp [hc]
        have hI2 := Lib.hid (okTo_bad4 hI.out hc)
        clear hI hc
        go_wp2_with (first | (go_at_call 93; refine (sf5_q _ _ _ _ hp').mono ?_; rintro e w' ⟨rfl, rfl⟩) | (go_at_call 32; refine (check_any _ _ _ _ hx.w).mono ?_; rintro e W2 ⟨rfl, hb2⟩))
        go_ret2
        rw [hI2.out]
        exact ⟨rfl, hb0.trans ((hB.trans (hb2.mono hB.size)).mono (by have := hb0.size; omega))⟩
    · have hI2 := Lib.hid (okTo_all hI.out)
      clear hI
      go_wp2
      go_ret2
      rw [hI2.out]
      exact ⟨rfl, hb0.trans (hB.mono (by omega))⟩

end Go.Proofs.YtkdejfedigiohaaGreatDoor
