/- The day layer's functions, to the top: Match, Minutes, Mask. -/
import Derived.Test.YtkdejfedigiohaaGreatDoorDayM
namespace Go.Proofs.YtkdejfedigiohaaGreatDoor
open Go.RowKit Go.Proofs.YtkdejfedigiohaaGreatDoorW.PrintWords Go.Proofs.YtkdejfedigiohaaGreatDoorW.PrintLast Go.Proofs.YtkdejfedigiohaaGreatDoorW.PrintMore
set_option linter.unusedVariables false
set_option linter.unusedSimpArgs false

open Go.Proofs.YtkdejfedigiohaaGreatDoor.PR

theorem eg_mt1 (args : Array Value) (w : World) : (callFunc 38 args).run Tryz.prog w = .ok (.enter 38 args) w := by kernel_rfl
theorem eg_mt11 (args : Array Value) (w : World) : (callFunc 39 args).run Tryz.prog w = .ok (.enter 39 args) w := by kernel_rfl
theorem eg_mi1 (args : Array Value) (w : World) : (callFunc 46 args).run Tryz.prog w = .ok (.enter 46 args) w := by kernel_rfl
theorem eg_mk1 (args : Array Value) (w : World) : (callFunc 51 args).run Tryz.prog w = .ok (.enter 51 args) w := by kernel_rfl
theorem eg_mk11 (args : Array Value) (w : World) : (callFunc 53 args).run Tryz.prog w = .ok (.enter 53 args) w := by kernel_rfl

theorem unlessB_yes (e : Int) (f : Value) (w : World) :
    Calls Tryz.prog 36 #[.bool true, .int .i64 e, f] w fun e' w' => e' = .returned (.tuple #[.bool false, .int .i64 e]) ∧ w = w' := by
  go_enter Tryz.func36, Tryz.ntmps36
  go_wp2
  go_ret2
  exact ⟨rfl, rfl⟩
theorem unlessB_no (e : Int) (g : Nat) (cb : Array Value) (a : Bool) (b : Int) (w : World) (Q : World → Prop) (eg : ∀ args w, (callFunc g args).run Tryz.prog w = .ok (.enter g args) w)
    (h : Calls Tryz.prog g cb w fun e w' => e = .returned (.tuple #[.bool a, .int .i64 b]) ∧ Q w') :
    Calls Tryz.prog 36 #[.bool false, .int .i64 e, .func (.func g) #[] cb] w fun e' w' => e' = .returned (.tuple #[.bool a, .int .i64 b]) ∧ Q w' := by
  have h := Lib.hid h
  go_enter Tryz.func36, Tryz.ntmps36
  go_wp2_with fail
  refine h.out.mono ?_
  rintro e' w2 ⟨rfl, hq⟩
  have hq := Lib.hid hq
  go_wp2
  go_ret2
  exact ⟨rfl, hq.out⟩
theorem unlessI_yes (e : Int) (f : Value) (w : World) :
    Calls Tryz.prog 45 #[.bool true, .int .i64 e, f] w fun e' w' => e' = .returned (.tuple #[.int .i64 0, .int .i64 e]) ∧ w = w' := by
  go_enter Tryz.func45, Tryz.ntmps45
  go_wp2
  go_ret2
  exact ⟨rfl, rfl⟩
theorem unlessI_no (e : Int) (g : Nat) (cb : Array Value) (a : Int) (b : Int) (w : World) (Q : World → Prop) (eg : ∀ args w, (callFunc g args).run Tryz.prog w = .ok (.enter g args) w)
    (h : Calls Tryz.prog g cb w fun e w' => e = .returned (.tuple #[.int .i64 a, .int .i64 b]) ∧ Q w') :
    Calls Tryz.prog 45 #[.bool false, .int .i64 e, .func (.func g) #[] cb] w fun e' w' => e' = .returned (.tuple #[.int .i64 a, .int .i64 b]) ∧ Q w' := by
  have h := Lib.hid h
  go_enter Tryz.func45, Tryz.ntmps45
  go_wp2_with fail
  refine h.out.mono ?_
  rintro e' w2 ⟨rfl, hq⟩
  have hq := Lib.hid hq
  go_wp2
  go_ret2
  exact ⟨rfl, hq.out⟩
theorem unlessU_yes (e : Int) (f : Value) (w : World) :
    Calls Tryz.prog 50 #[.bool true, .int .i64 e, f] w fun e' w' => e' = .returned (.tuple #[.int .u32 0, .int .i64 e]) ∧ w = w' := by
  go_enter Tryz.func50, Tryz.ntmps50
  go_wp2
  go_ret2
  exact ⟨rfl, rfl⟩
theorem unlessU_no (e : Int) (g : Nat) (cb : Array Value) (a : Int) (b : Int) (w : World) (Q : World → Prop) (eg : ∀ args w, (callFunc g args).run Tryz.prog w = .ok (.enter g args) w)
    (h : Calls Tryz.prog g cb w fun e w' => e = .returned (.tuple #[.int .u32 a, .int .i64 b]) ∧ Q w') :
    Calls Tryz.prog 50 #[.bool false, .int .i64 e, .func (.func g) #[] cb] w fun e' w' => e' = .returned (.tuple #[.int .u32 a, .int .i64 b]) ∧ Q w' := by
  have h := Lib.hid h
  go_enter Tryz.func50, Tryz.ntmps50
  go_wp2_with fail
  refine h.out.mono ?_
  rintro e' w2 ⟨rfl, hq⟩
  have hq := Lib.hid hq
  go_wp2
  go_ret2
  exact ⟨rfl, hq.out⟩

theorem unlessB_gen (e : Int) (g : Nat) (cb : Array Value) (w : World) (R : Ending → World → Prop) (eg : ∀ args w, (callFunc g args).run Tryz.prog w = .ok (.enter g args) w)
    (hR : ∀ e w', R e w' → ∃ (a : Bool) (b : Int), e = .returned (.tuple #[.bool a, .int .i64 b])) (h : Calls Tryz.prog g cb w R) :
    Calls Tryz.prog 36 #[.bool false, .int .i64 e, .func (.func g) #[] cb] w R := by
  have h := Lib.hid h
  have hR := Lib.hid hR
  go_enter Tryz.func36, Tryz.ntmps36
  go_wp2_with fail
  refine h.out.mono ?_
  intro e' w2 hq
  obtain ⟨a, b, rfl⟩ := hR.out _ _ hq
  dsimp only
  have hq := Lib.hid hq
  go_wp2
  exact hq.out
theorem unlessI_gen (e : Int) (g : Nat) (cb : Array Value) (w : World) (R : Ending → World → Prop) (eg : ∀ args w, (callFunc g args).run Tryz.prog w = .ok (.enter g args) w)
    (hR : ∀ e w', R e w' → ∃ (a : Int) (b : Int), e = .returned (.tuple #[.int .i64 a, .int .i64 b])) (h : Calls Tryz.prog g cb w R) :
    Calls Tryz.prog 45 #[.bool false, .int .i64 e, .func (.func g) #[] cb] w R := by
  have h := Lib.hid h
  have hR := Lib.hid hR
  go_enter Tryz.func45, Tryz.ntmps45
  go_wp2_with fail
  refine h.out.mono ?_
  intro e' w2 hq
  obtain ⟨a, b, rfl⟩ := hR.out _ _ hq
  dsimp only
  have hq := Lib.hid hq
  go_wp2
  exact hq.out
theorem unlessU_gen (e : Int) (g : Nat) (cb : Array Value) (w : World) (R : Ending → World → Prop) (eg : ∀ args w, (callFunc g args).run Tryz.prog w = .ok (.enter g args) w)
    (hR : ∀ e w', R e w' → ∃ (a : Int) (b : Int), e = .returned (.tuple #[.int .u32 a, .int .i64 b])) (h : Calls Tryz.prog g cb w R) :
    Calls Tryz.prog 50 #[.bool false, .int .i64 e, .func (.func g) #[] cb] w R := by
  have h := Lib.hid h
  have hR := Lib.hid hR
  go_enter Tryz.func50, Tryz.ntmps50
  go_wp2_with fail
  refine h.out.mono ?_
  intro e' w2 hq
  obtain ⟨a, b, rfl⟩ := hR.out _ _ hq
  dsimp only
  have hq := Lib.hid hq
  go_wp2
  exact hq.out
/-- What day.Match comes to at a minute of a spec that is one. -/
def MatchSaid (x : Sp) (t : Int) (w : World) (e : Ending) (w' : World) : Prop :=
  (∃ y m d : Int, IsDate (t / 1440) y m d ∧ e = .returned (.tuple #[.bool (matchI x m d (t / 60 % 24) (t % 60) (weekI (t / 1440))), .int .i64 0])) ∧ Below w.heap.size w w'

set_option maxRecDepth 100000 in
set_option maxHeartbeats 2000000 in
theorem match1_ok (x : Sp) (bt bx : Nat) (t : Int) (W : World) (hx : x.Ok) (h0 : 0 ≤ t) (h1 : t ≤ 541727999) (hS : SpIn W bx x) (ht : W.cell? ⟨bt, 0, none⟩ = some (.int .i64 t)) :
    Calls Tryz.prog 38 #[.pointer (some ⟨bt, 0, none⟩), .pointer (some ⟨bx, 0, none⟩)] W (MatchSaid x t W) := by
  have hlt := hS.lt
  go_enter Tryz.func38, Tryz.ntmps38
  go_wp2_with fail
  refine (of_ok t _ h0 h1).mono ?_
  rintro e w1 ⟨y, m, d, hD, rfl, hb⟩
  have hD := Lib.hid hD
  go_wp2_with fail
  generalize hW : w1.alloc (.cells #[.int .i64 y, .int .i64 m, .int .i64 d, .int .i64 (t / 60 % 24), .int .i64 (t % 60), .int .i64 (weekI (t / 1440))] 36) = W2
  have hC : CivIn W2 w1.heap.size y m d (t / 60 % 24) (t % 60) (weekI (t / 1440)) := by subst hW; unfold CivIn; go_simp
  have hb2 : Below W.heap.size W W2 := by subst hW; exact hb.alloc hb.size _
  have hS2 := hS.below hb2 hlt
  clear hW
  refine (unlessB_no 1 _ _ _ 0 W2 (fun w' => Below W2.heap.size W2 w') eg_mt11 (match11_any x bx w1.heap.size y m d _ _ _ W2 hx hS2 hC)).mono ?_
  rintro e w3 ⟨rfl, hb3⟩
  go_wp2
  go_ret2
  exact ⟨⟨y, m, d, hD.out, rfl⟩, hb2.trans (hb3.mono hb2.size)⟩

set_option maxRecDepth 100000 in
set_option maxHeartbeats 2000000 in
theorem match1_no (x : Sp) (bt bx : Nat) (t : Int) (W : World) (h : t < 0 ∨ 541727999 < t) (ht : W.cell? ⟨bt, 0, none⟩ = some (.int .i64 t)) :
    Calls Tryz.prog 38 #[.pointer (some ⟨bt, 0, none⟩), .pointer (some ⟨bx, 0, none⟩)] W fun e w' => e = .returned (.tuple #[.bool false, .int .i64 1]) ∧ Below W.heap.size W w' := by
  have hn := fun w => Lib.hid (of_no t w h)
  clear h
  go_enter Tryz.func38, Tryz.ntmps38
  go_wp2_with fail
  refine (hn _).out.mono ?_
  rintro e w1 ⟨rfl, hb⟩
  go_wp2_with fail
  refine (unlessB_yes _ _ _).mono ?_
  rintro e w3 ⟨rfl, rfl⟩
  go_wp2
  go_ret2
  exact ⟨rfl, hb.alloc hb.size _⟩

set_option maxRecDepth 100000 in
set_option maxHeartbeats 2000000 in
theorem match_bad (x : Sp) (t : Int) (w : World) (hx : x.Ok) (hk : (spChk x).2 ≠ 0) :
    Calls Tryz.prog 15 #[.agg #[.int .u64 x.m.b, .bool x.m.s, .int .u64 x.h.b, .bool x.h.s, .int .u64 x.d.b, .bool x.d.s, .int .u64 x.n.b, .bool x.n.s, .int .u64 x.w.b, .bool x.w.s], .int .i64 t] w fun e w' => e = .returned (.tuple #[.bool false, .int .i64 2]) ∧ Below w.heap.size w w' := by
  have ho := odd_any x
  rw [show ((spChk x).2 != 0) = true by simp [hk]] at ho
  have ho := fun w => Lib.hid (ho w hx)
  clear hk
  go_enter Tryz.func15, Tryz.ntmps15
  go_wp2_with fail
  refine (ho _).out.mono ?_
  rintro e w1 ⟨rfl, hb⟩
  go_wp2_with fail
  refine (unlessB_yes _ _ _).mono ?_
  rintro e w3 ⟨rfl, rfl⟩
  go_wp2
  go_ret2
  exact ⟨rfl, (((Below.refl _ _).alloc (Nat.le_refl _) _).alloc (by simp) _).trans (hb.mono (by simp; omega))⟩

set_option maxRecDepth 100000 in
set_option maxHeartbeats 2000000 in
theorem match_no (x : Sp) (t : Int) (w : World) (hx : x.Ok) (hk : (spChk x).2 = 0) (h : t < 0 ∨ 541727999 < t) :
    Calls Tryz.prog 15 #[.agg #[.int .u64 x.m.b, .bool x.m.s, .int .u64 x.h.b, .bool x.h.s, .int .u64 x.d.b, .bool x.d.s, .int .u64 x.n.b, .bool x.n.s, .int .u64 x.w.b, .bool x.w.s], .int .i64 t] w fun e w' => e = .returned (.tuple #[.bool false, .int .i64 1]) ∧ Below w.heap.size w w' := by
  have ho := odd_any x
  rw [show ((spChk x).2 != 0) = false by simp [hk]] at ho
  have ho := fun w => Lib.hid (ho w hx)
  have h := Lib.hid h
  clear hk
  go_enter Tryz.func15, Tryz.ntmps15
  go_wp2_with fail
  refine (ho _).out.mono ?_
  rintro e w1 ⟨rfl, hb⟩
  have hb0 : Below w.heap.size w w1 := (((Below.refl _ _).alloc (Nat.le_refl _) _).alloc (by simp) _).trans (hb.mono (by simp; omega))
  have hc := hb.cell (p := ⟨w.heap.size + 1, 0, none⟩) (by simp)
  go_wp2_with fail
  refine (unlessB_no 2 _ _ _ 1 _ (fun w' => Below w1.heap.size w1 w') eg_mt1 (match1_no x _ w.heap.size t _ h.out (hc.trans (by go_simp)))).mono ?_
  rintro e w3 ⟨rfl, hb3⟩
  go_wp2
  go_ret2
  exact ⟨rfl, hb0.trans (hb3.mono hb0.size)⟩

set_option maxRecDepth 100000 in
set_option maxHeartbeats 2000000 in
theorem match_ok (x : Sp) (t : Int) (w : World) (hx : x.Ok) (hk : (spChk x).2 = 0) (h0 : 0 ≤ t) (h1 : t ≤ 541727999) :
    Calls Tryz.prog 15 #[.agg #[.int .u64 x.m.b, .bool x.m.s, .int .u64 x.h.b, .bool x.h.s, .int .u64 x.d.b, .bool x.d.s, .int .u64 x.n.b, .bool x.n.s, .int .u64 x.w.b, .bool x.w.s], .int .i64 t] w (MatchSaid x t w) := by
  have ho := odd_any x
  rw [show ((spChk x).2 != 0) = false by simp [hk]] at ho
  have ho := fun w => Lib.hid (ho w hx)
  clear hk
  go_enter Tryz.func15, Tryz.ntmps15
  go_wp2_with fail
  refine (ho _).out.mono ?_
  rintro e w1 ⟨rfl, hb⟩
  have hb0 : Below w.heap.size w w1 := (((Below.refl _ _).alloc (Nat.le_refl _) _).alloc (by simp) _).trans (hb.mono (by simp; omega))
  have hc := (hb.cell (p := ⟨w.heap.size + 1, 0, none⟩) (by simp)).trans (show _ = some (.int .i64 t) by go_simp)
  have hS : SpIn w1 w.heap.size x := SpIn.below (W := (w.alloc (.cells #[.int .u64 x.m.b, .bool x.m.s, .int .u64 x.h.b, .bool x.h.s, .int .u64 x.d.b, .bool x.d.s, .int .u64 x.n.b, .bool x.n.s, .int .u64 x.w.b, .bool x.w.s] 26)).alloc (.cells #[.int .i64 t] 3)) (by unfold SpIn; go_simp) hb (by simp; omega)
  go_wp2_with fail
  refine (unlessB_gen 2 _ _ _ _ eg_mt1 (fun e w' h => by obtain ⟨⟨y, m, d, _, rfl⟩, _⟩ := h; exact ⟨_, _, rfl⟩) (match1_ok x _ w.heap.size t _ hx h0 h1 hS hc)).mono ?_
  rintro e w3 ⟨⟨y, m, d, hD, rfl⟩, hb3⟩
  have hD := Lib.hid hD
  go_wp2
  go_ret2
  exact ⟨⟨y, m, d, hD.out, rfl⟩, hb0.trans (hb3.mono hb0.size)⟩

end Go.Proofs.YtkdejfedigiohaaGreatDoor
