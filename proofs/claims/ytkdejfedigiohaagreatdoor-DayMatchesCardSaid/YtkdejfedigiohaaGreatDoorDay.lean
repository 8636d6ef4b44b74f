/- The day layer's functions: which days, and which minutes, a spec matches. -/
import Derived.Test.YtkdejfedigiohaaGreatDoorSpec
import Derived.Deep.RegionHeld3
namespace Go.Proofs.YtkdejfedigiohaaGreatDoor
open Go.RowKit Go.Proofs.YtkdejfedigiohaaGreatDoorW.PrintWords Go.Proofs.YtkdejfedigiohaaGreatDoorW.PrintLast Go.Proofs.YtkdejfedigiohaaGreatDoorW.PrintMore
set_option linter.unusedVariables false
set_option linter.unusedSimpArgs false


set_option maxRecDepth 100000 in
set_option maxHeartbeats 2000000 in
theorem odd_any (x : Sp) (w : World) (hx : x.Ok) :
    Calls Tryz.prog 37 #[.agg #[.int .u64 x.m.b, .bool x.m.s, .int .u64 x.h.b, .bool x.h.s, .int .u64 x.d.b, .bool x.d.s, .int .u64 x.n.b, .bool x.n.s, .int .u64 x.w.b, .bool x.w.s]] w fun e w' => e = .returned (.bool ((spChk x).2 != 0)) ∧ Below w.heap.size w w' := by
  go_enter Tryz.func37, Tryz.ntmps37
  go_wp2_with (go_at_call 66; refine (spCheck_any x _ hx).mono ?_; rintro e w1 ⟨rfl, hb⟩)
  go_ret
  have hb0 : Below w.heap.size w w1 := ((Below.refl _ _).alloc (Nat.le_refl _) _).trans (hb.mono (by simp))
  exact ⟨rfl, hb0⟩

/-- Which days of its months match: at neither a star. -/
def dayOr (x : Sp) (day week : Int) : Bool := hasB x.d.b day || hasB x.w.b week
def dayAnd (x : Sp) (day week : Int) : Bool := hasB x.d.b day && hasB x.w.b week
def starless (x : Sp) : Bool := !x.d.s && !x.w.s
def dayOn (x : Sp) (day week : Int) : Bool := if starless x = true then dayOr x day week else dayAnd x day week

theorem SpIn.lt {W : World} {b : Nat} {x : Sp} (h : SpIn W b x) : b < W.heap.size := World.block_lt_of_cell? _ _ h.1

set_option maxRecDepth 100000 in
set_option maxHeartbeats 2000000 in
theorem by1_any (x : Sp) (day week : Int) (b : Nat) (W : World) (hx : x.Ok) (hS : SpIn W b x) :
    Calls Tryz.prog 79 #[.int .i64 day, .int .i64 week, .pointer (some ⟨b, 0, none⟩)] W fun e w' => e = .returned (.bool (dayOr x day week)) ∧ Below W.heap.size W w' := by
  have hlt := hS.lt
  have hS0 := Lib.hid hS
  obtain ⟨c0, c1, c2, c3, c4, c5, c6, c7, c8, c9⟩ := hS
  have ho : Hid (∀ d, hasB x.d.b day = d → dayOr x day week = (d || hasB x.w.b week)) := fun d h => by unfold dayOr; rw [h]
  cases hd : hasB x.d.b day
  · have he := Lib.hid (ho.out _ hd)
    have hda := has_any x.d.b x.d.s day
    rw [hd] at hda
    have hda := fun w => Lib.hid (hda w hx.d)
    clear ho hd
    go_enter Tryz.func79, Tryz.ntmps79
    go_wp2_with fail
    refine (hda _).out.mono ?_
    rintro e W2 ⟨rfl, hb2⟩
    obtain ⟨d0, d1, d2, d3, d4, d5, d6, d7, d8, d9⟩ := hS0.out.below hb2 hlt
    go_wp2_with fail
    refine (has_any _ _ _ _ hx.w).mono ?_
    rintro e W3 ⟨rfl, hb3⟩
    go_wp2
    go_ret
    exact ⟨ret_bool (by rw [he.out]; rfl), hb2.trans (hb3.mono hb2.size)⟩
  · have he := Lib.hid (ho.out _ hd)
    have hda := has_any x.d.b x.d.s day
    rw [hd] at hda
    have hda := fun w => Lib.hid (hda w hx.d)
    clear ho hd
    go_enter Tryz.func79, Tryz.ntmps79
    go_wp2_with fail
    refine (hda _).out.mono ?_
    rintro e W2 ⟨rfl, hb2⟩
    go_wp2
    go_ret
    exact ⟨ret_bool (by rw [he.out]; rfl), hb2⟩

set_option maxRecDepth 100000 in
set_option maxHeartbeats 2000000 in
theorem by2_any (x : Sp) (day week : Int) (b : Nat) (W : World) (hx : x.Ok) (hS : SpIn W b x) :
    Calls Tryz.prog 80 #[.int .i64 day, .int .i64 week, .pointer (some ⟨b, 0, none⟩)] W fun e w' => e = .returned (.bool (dayAnd x day week)) ∧ Below W.heap.size W w' := by
  have hlt := hS.lt
  have hS0 := Lib.hid hS
  obtain ⟨c0, c1, c2, c3, c4, c5, c6, c7, c8, c9⟩ := hS
  have ho : Hid (∀ d, hasB x.d.b day = d → dayAnd x day week = (d && hasB x.w.b week)) := fun d h => by unfold dayAnd; rw [h]
  cases hd : hasB x.d.b day
  · have he := Lib.hid (ho.out _ hd)
    have hda := has_any x.d.b x.d.s day
    rw [hd] at hda
    have hda := fun w => Lib.hid (hda w hx.d)
    clear ho hd
    go_enter Tryz.func80, Tryz.ntmps80
    go_wp2_with fail
    refine (hda _).out.mono ?_
    rintro e W2 ⟨rfl, hb2⟩
    go_wp2
    go_ret
    exact ⟨ret_bool (by rw [he.out]; rfl), hb2⟩
  · have he := Lib.hid (ho.out _ hd)
    have hda := has_any x.d.b x.d.s day
    rw [hd] at hda
    have hda := fun w => Lib.hid (hda w hx.d)
    clear ho hd
    go_enter Tryz.func80, Tryz.ntmps80
    go_wp2_with fail
    refine (hda _).out.mono ?_
    rintro e W2 ⟨rfl, hb2⟩
    obtain ⟨d0, d1, d2, d3, d4, d5, d6, d7, d8, d9⟩ := hS0.out.below hb2 hlt
    go_wp2_with fail
    refine (has_any _ _ _ _ hx.w).mono ?_
    rintro e W3 ⟨rfl, hb3⟩
    go_wp2
    go_ret
    exact ⟨ret_bool (by rw [he.out]; rfl), hb2.trans (hb3.mono hb2.size)⟩

theorem eg_by1 (args : Array Value) (w : World) : (callFunc 79 args).run Tryz.prog w = .ok (.enter 79 args) w := by kernel_rfl
theorem eg_by2 (args : Array Value) (w : World) : (callFunc 80 args).run Tryz.prog w = .ok (.enter 80 args) w := by kernel_rfl
/-- The function that by tells. -/
def byFn (x : Sp) : Nat := if starless x = true then 79 else 80
theorem eg_by (x : Sp) (args : Array Value) (w : World) : (callFunc (byFn x) args).run Tryz.prog w = .ok (.enter (byFn x) args) w := by
  unfold byFn; split
  · exact eg_by1 args w
  · exact eg_by2 args w
theorem byFn_any (x : Sp) (day week : Int) (b : Nat) (W : World) (hx : x.Ok) (hS : SpIn W b x) :
    Calls Tryz.prog (byFn x) #[.int .i64 day, .int .i64 week, .pointer (some ⟨b, 0, none⟩)] W fun e w' => e = .returned (.bool (dayOn x day week)) ∧ Below W.heap.size W w' := by
  unfold byFn dayOn; split
  · exact by1_any x day week b W hx hS
  · exact by2_any x day week b W hx hS

set_option maxRecDepth 100000 in
set_option maxHeartbeats 2000000 in
theorem by_any (x : Sp) (w : World) :
    Calls Tryz.prog 40 #[.agg #[.int .u64 x.m.b, .bool x.m.s, .int .u64 x.h.b, .bool x.h.s, .int .u64 x.d.b, .bool x.d.s, .int .u64 x.n.b, .bool x.n.s, .int .u64 x.w.b, .bool x.w.s]] w fun e w' => e = .returned (.func (.func (byFn x)) #[] #[.pointer (some ⟨w.heap.size, 0, none⟩)]) ∧ w' = w.alloc (.cells #[.int .u64 x.m.b, .bool x.m.s, .int .u64 x.h.b, .bool x.h.s, .int .u64 x.d.b, .bool x.d.s, .int .u64 x.n.b, .bool x.n.s, .int .u64 x.w.b, .bool x.w.s] 26) := by
  unfold byFn starless
  cases h1 : x.d.s <;> cases h2 : x.w.s
  all_goals
    go_enter Tryz.func40, Tryz.ntmps40
    go_wp2
    go_ret
    exact ⟨rfl, rfl⟩

def CivIn (W : World) (b : Nat) (y mo d h mi wk : Int) : Prop :=
  W.cell? ⟨b, 0, none⟩ = some (.int .i64 y) ∧ W.cell? ⟨b, 1, none⟩ = some (.int .i64 mo) ∧ W.cell? ⟨b, 2, none⟩ = some (.int .i64 d) ∧ W.cell? ⟨b, 3, none⟩ = some (.int .i64 h)
  ∧ W.cell? ⟨b, 4, none⟩ = some (.int .i64 mi) ∧ W.cell? ⟨b, 5, none⟩ = some (.int .i64 wk)
theorem CivIn.below {W W' : World} {b B : Nat} {y mo d h mi wk : Int} (k : CivIn W b y mo d h mi wk) (hb : Below B W W') (hlt : b < B) : CivIn W' b y mo d h mi wk := by
  unfold CivIn at k ⊢
  simp only [fun o => hb.cell (p := ⟨b, o, none⟩) hlt]
  exact k
theorem CivIn.lt {W : World} {b : Nat} {y mo d h mi wk : Int} (k : CivIn W b y mo d h mi wk) : b < W.heap.size := World.block_lt_of_cell? _ _ k.1

end Go.Proofs.YtkdejfedigiohaaGreatDoor
