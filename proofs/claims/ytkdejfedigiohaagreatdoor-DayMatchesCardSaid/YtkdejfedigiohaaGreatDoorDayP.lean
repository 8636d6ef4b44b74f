/- The day layer's functions, to the top: Minutes, Mask. -/
import Derived.Test.YtkdejfedigiohaaGreatDoorDayN
import Derived.Laws.BitsAllLaws
namespace Go.Proofs.YtkdejfedigiohaaGreatDoor
open Go.RowKit Go.Proofs.YtkdejfedigiohaaGreatDoorW.PrintWords Go.Proofs.YtkdejfedigiohaaGreatDoorW.PrintLast Go.Proofs.YtkdejfedigiohaaGreatDoorW.PrintMore
set_option linter.unusedVariables false
set_option linter.unusedSimpArgs false

open Go.Proofs.YtkdejfedigiohaaGreatDoor.PR

/-- How many values. -/
def cntI (b : Int) : Int := (bits_OnesCount64.f b).getD 0
theorem ones_some (b : Int) : ∃ v, bits_OnesCount64.f b = some v := by unfold bits_OnesCount64.f; exact ⟨_, rfl⟩
theorem count_f (b : Int) (s : Bool) : field_Count.f b s = some (cntI b) := by
  obtain ⟨v, hv⟩ := ones_some b
  unfold field_Count.f cntI
  rw [hv]; rfl
theorem count_any (b : Int) (s : Bool) (w : World) :
    Calls Tryz.prog 47 #[.agg #[.int .u64 b, .bool s]] w fun e w' => e = .returned (.int .i64 (cntI b)) ∧ Below w.heap.size w w' :=
  field_Count.calls b s _ w (count_f b s)
def minutesI (x : Sp) : Int := wrap64 (cntI x.h.b * cntI x.m.b)

set_option maxRecDepth 100000 in
set_option maxHeartbeats 2000000 in
theorem minutes1_any (x : Sp) (bx : Nat) (W : World) (hS : SpIn W bx x) :
    Calls Tryz.prog 46 #[.pointer (some ⟨bx, 0, none⟩)] W fun e w' => e = .returned (.tuple #[.int .i64 (minutesI x), .int .i64 0]) ∧ Below W.heap.size W w' := by
  have hS0 := Lib.hid hS
  have hltS := hS.lt
  obtain ⟨c0, c1, c2, c3, c4, c5, c6, c7, c8, c9⟩ := hS
  have HB1 : Below W.heap.size W W.drew := (Below.refl _ _).drew
  go_enter Tryz.func46, Tryz.ntmps46
  go_wp2
  refine start_ (n := 9) (S := fun w' => w'.cell? ⟨bx, 0, none⟩ = some (.int .u64 x.m.b) ∧ w'.cell? ⟨bx, 1, none⟩ = some (.bool x.m.s) ∧ w'.cell? ⟨bx, 2, none⟩ = some (.int .u64 x.h.b) ∧ w'.cell? ⟨bx, 3, none⟩ = some (.bool x.h.s) ∧ w'.cell? ⟨bx, 4, none⟩ = some (.int .u64 x.d.b) ∧ w'.cell? ⟨bx, 5, none⟩ = some (.bool x.d.s) ∧ w'.cell? ⟨bx, 6, none⟩ = some (.int .u64 x.n.b) ∧ w'.cell? ⟨bx, 7, none⟩ = some (.bool x.n.s) ∧ w'.cell? ⟨bx, 8, none⟩ = some (.int .u64 x.w.b) ∧ w'.cell? ⟨bx, 9, none⟩ = some (.bool x.w.s)) (ds := []) #[false, false, false, false, false, false, false, false, false] (by kernel_rfl) rfl rfl ⟨c0, c1, c2, c3, c4, c5, c6, c7, c8, c9⟩ (fun hHeld => ?_)
  refine pure_ (i := 0) (N := some 3) (v := ?_) (a' := ?_) #[true, false, false, false, false, false, false, false, false] rfl rfl (by kernel_rfl) (fun _ _ _ h => h) (Or.inl ⟨by rfl, ?_⟩) ?_ ?_
  rotate_left
  · intro w'
    go_simp
    with_reducible rfl
  rotate_left
  · simp only [Act.put, List.setIfInBounds_toArray, List.set_cons_zero, List.set_cons_succ, i64_w, i32_w]
    rfl
  refine pure_ (i := 3) (N := some 6) (v := ?_) (a' := ?_) #[true, false, false, true, false, false, false, false, false] rfl rfl (by kernel_rfl) (fun _ _ _ h => h) (Or.inl ⟨by rfl, ?_⟩) ?_ ?_
  rotate_left
  · intro w'
    go_simp
    with_reducible rfl
  rotate_left
  · simp only [Act.put, List.setIfInBounds_toArray, List.set_cons_zero, List.set_cons_succ, i64_w, i32_w]
    rfl
  refine take_ (i := 1) (N := some 4) (v := ?_) (a' := ?_) #[true, true, false, true, false, false, false, false, false] rfl rfl (by kernel_rfl) (fun _ _ _ h => h) (Or.inl ⟨by rfl, ?_⟩) hHeld ?_ ?_
  rotate_left
  · rintro w' ⟨s0, s1, s2, s3, s4, s5, s6, s7, s8, s9⟩
    go_simp
    with_reducible rfl
  rotate_left
  · simp only [Act.put, List.setIfInBounds_toArray, List.set_cons_zero, List.set_cons_succ, i64_w, i32_w]
    rfl
  refine take_ (i := 4) (N := some 7) (v := ?_) (a' := ?_) #[true, true, false, true, true, false, false, false, false] rfl rfl (by kernel_rfl) (fun _ _ _ h => h) (Or.inl ⟨by rfl, ?_⟩) hHeld ?_ ?_
  rotate_left
  · rintro w' ⟨s0, s1, s2, s3, s4, s5, s6, s7, s8, s9⟩
    go_simp
    with_reducible rfl
  rotate_left
  · simp only [Act.put, List.setIfInBounds_toArray, List.set_cons_zero, List.set_cons_succ, i64_w, i32_w]
    rfl
  refine one_ (i := 2) (N := some 5) #[true, true, true, true, true, false, false, false, false] rfl rfl (by kernel_rfl) (by decide) (fun K hK => ?_)
  refine goes_ Tryz.func47 (by kernel_rfl) rfl #[.agg #[.int .u64 x.h.b, .bool x.h.s]] (by rfl) rfl rfl (by simp only [List.map_toArray, List.map_cons, List.map_nil]; rfl) ?_
  with_reducible refine (count_any x.h.b x.h.s _).mono ?_
  rintro e w2 ⟨rfl, hb⟩
  refine ⟨_, rfl, ?_⟩
  have HB2 := HB1.trans (hb.mono HB1.size)
  clear hb
  obtain ⟨c0, c1, c2, c3, c4, c5, c6, c7, c8, c9⟩ := hS0.out.below HB2 hltS
  refine hK.out _ _ ⟨c0, c1, c2, c3, c4, c5, c6, c7, c8, c9⟩ (fun hHeld => ?_)
  clear hK K
  refine norm_ (a' := ?_) ?_ ?_
  rotate_left
  · show Act.put _ (some 5) _ = _
    simp only [Act.put, List.setIfInBounds_toArray, List.set_cons_zero, List.set_cons_succ, i64_w, i32_w]
    rfl
  refine one_ (i := 5) (N := some 8) #[true, true, true, true, true, true, false, false, false] rfl rfl (by kernel_rfl) (by decide) (fun K hK => ?_)
  refine goes_ Tryz.func47 (by kernel_rfl) rfl #[.agg #[.int .u64 x.m.b, .bool x.m.s]] (by rfl) rfl rfl (by simp only [List.map_toArray, List.map_cons, List.map_nil]; rfl) ?_
  with_reducible refine (count_any x.m.b x.m.s _).mono ?_
  rintro e w3 ⟨rfl, hb⟩
  refine ⟨_, rfl, ?_⟩
  have HB3 := HB2.trans (hb.mono HB2.size)
  clear hb
  obtain ⟨c0, c1, c2, c3, c4, c5, c6, c7, c8, c9⟩ := hS0.out.below HB3 hltS
  refine hK.out _ _ ⟨c0, c1, c2, c3, c4, c5, c6, c7, c8, c9⟩ (fun hHeld => ?_)
  clear hK K
  refine norm_ (a' := ?_) ?_ ?_
  rotate_left
  · show Act.put _ (some 8) _ = _
    simp only [Act.put, List.setIfInBounds_toArray, List.set_cons_zero, List.set_cons_succ, i64_w, i32_w]
    rfl
  refine pure_ (i := 6) (N := some 9) (v := ?_) (a' := ?_) #[true, true, true, true, true, true, true, false, false] rfl rfl (by kernel_rfl) (fun _ _ _ h => h) (Or.inl ⟨by rfl, ?_⟩) ?_ ?_
  rotate_left
  · intro w'
    go_simp
    with_reducible rfl
  rotate_left
  · simp only [Act.put, List.setIfInBounds_toArray, List.set_cons_zero, List.set_cons_succ, i64_w, i32_w]
    rfl
  refine pure_ (i := 7) (N := some 1) (v := ?_) (a' := ?_) #[true, true, true, true, true, true, true, true, false] rfl rfl (by kernel_rfl) (fun _ _ _ h => h) (Or.inl ⟨by rfl, ?_⟩) ?_ ?_
  rotate_left
  · intro w'
    go_simp
    with_reducible rfl
  rotate_left
  · simp only [Act.put, List.setIfInBounds_toArray, List.set_cons_zero, List.set_cons_succ, i64_w, i32_w]
    rfl
  refine pure_ (i := 8) (N := some 2) (v := ?_) (a' := ?_) #[true, true, true, true, true, true, true, true, true] rfl rfl (by kernel_rfl) (fun _ _ _ h => h) (Or.inl ⟨by rfl, ?_⟩) ?_ ?_
  rotate_left
  · intro w'
    go_simp
    with_reducible rfl
  rotate_left
  · simp only [Act.put, List.setIfInBounds_toArray, List.set_cons_zero, List.set_cons_succ, i64_w, i32_w]
    rfl
  refine done_ (by kernel_rfl) ?_

  go_wp2
  go_ret2
  exact ⟨rfl, HB3⟩

set_option maxRecDepth 100000 in
set_option maxHeartbeats 2000000 in
theorem minutes_bad (x : Sp) (w : World) (hx : x.Ok) (hk : (spChk x).2 ≠ 0) :
    Calls Tryz.prog 17 #[.agg #[.int .u64 x.m.b, .bool x.m.s, .int .u64 x.h.b, .bool x.h.s, .int .u64 x.d.b, .bool x.d.s, .int .u64 x.n.b, .bool x.n.s, .int .u64 x.w.b, .bool x.w.s]] w fun e w' => e = .returned (.tuple #[.int .i64 0, .int .i64 2]) ∧ Below w.heap.size w w' := by
  have ho := odd_any x
  rw [show ((spChk x).2 != 0) = true by simp [hk]] at ho
  have ho := fun w => Lib.hid (ho w hx)
  clear hk
  go_enter Tryz.func17, Tryz.ntmps17
  go_wp2_with fail
  refine (ho _).out.mono ?_
  rintro e w1 ⟨rfl, hb⟩
  go_wp2_with fail
  refine (unlessI_yes _ _ _).mono ?_
  rintro e w3 ⟨rfl, rfl⟩
  go_wp2
  go_ret2
  exact ⟨rfl, ((Below.refl _ _).alloc (Nat.le_refl _) _).trans (hb.mono (by simp))⟩

set_option maxRecDepth 100000 in
set_option maxHeartbeats 2000000 in
theorem minutes_ok (x : Sp) (w : World) (hx : x.Ok) (hk : (spChk x).2 = 0) :
    Calls Tryz.prog 17 #[.agg #[.int .u64 x.m.b, .bool x.m.s, .int .u64 x.h.b, .bool x.h.s, .int .u64 x.d.b, .bool x.d.s, .int .u64 x.n.b, .bool x.n.s, .int .u64 x.w.b, .bool x.w.s]] w fun e w' => e = .returned (.tuple #[.int .i64 (minutesI x), .int .i64 0]) ∧ Below w.heap.size w w' := by
  have ho := odd_any x
  rw [show ((spChk x).2 != 0) = false by simp [hk]] at ho
  have ho := fun w => Lib.hid (ho w hx)
  clear hk
  go_enter Tryz.func17, Tryz.ntmps17
  go_wp2_with fail
  refine (ho _).out.mono ?_
  rintro e w1 ⟨rfl, hb⟩
  have hb0 : Below w.heap.size w w1 := ((Below.refl _ _).alloc (Nat.le_refl _) _).trans (hb.mono (by simp))
  have hS : SpIn w1 w.heap.size x := SpIn.below (W := w.alloc (.cells #[.int .u64 x.m.b, .bool x.m.s, .int .u64 x.h.b, .bool x.h.s, .int .u64 x.d.b, .bool x.d.s, .int .u64 x.n.b, .bool x.n.s, .int .u64 x.w.b, .bool x.w.s] 26)) (by unfold SpIn; go_simp) hb (by simp)
  go_wp2_with fail
  refine (unlessI_no 2 _ _ _ 0 _ (fun w' => Below w1.heap.size w1 w') eg_mi1 (minutes1_any x w.heap.size w1 hS)).mono ?_
  rintro e w3 ⟨rfl, hb3⟩
  go_wp2
  go_ret2
  exact ⟨rfl, hb0.trans (hb3.mono hb0.size)⟩

/-- The days of a month that match, the first k of them: bit d is day d. -/
def maskN (x : Sp) (wk : Int) : Nat → Nat
  | 0 => 0
  | k + 1 => maskN x wk k + if dayOn x ((k : Int) + 1) ((wk + k) % 7) = true then 2 ^ (k + 1) else 0
theorem maskN_lt (x : Sp) (wk : Int) (k : Nat) : maskN x wk k < 2 ^ (k + 1) := by
  induction k with
  | zero => simp [maskN]
  | succ k ih =>
    simp only [maskN]
    have : 2 ^ (k + 1 + 1) = 2 ^ (k + 1) + 2 ^ (k + 1) := by rw [Nat.pow_succ]; omega
    split <;> omega

theorem or_mask (M k : Nat) (h : M < 2 ^ (k + 1)) (hk : k ≤ 30) : bits .or .u32 (M : Int) (2 * 2 ^ k % 4294967296) = ((M + 2 ^ (k + 1) : Nat) : Int) := by
  have h1 : 2 ^ (k + 1) ≤ 2 ^ 31 := Nat.pow_le_pow_right (by decide) (by omega)
  have e : ((2 : Int) * 2 ^ k % 4294967296) = ((2 ^ (k + 1) : Nat) : Int) := by
    rw [show (2 : Int) * 2 ^ k = ((2 ^ (k + 1) : Nat) : Int) by rw [Nat.pow_succ]; push_cast; exact Int.mul_comm _ _]
    omega
  rw [e, (bits_nat .u32 32 (by decide) (fun n a b => by rw [IntKind.wrap_u32]; omega) M (2 ^ (k + 1)) (by omega) (by omega)).2]
  have := Nat.two_pow_add_eq_or_of_lt h 1
  rw [Nat.mul_one] at this
  rw [Nat.or_comm, ← this, Nat.add_comm]

set_option maxRecDepth 100000 in
set_option maxHeartbeats 2000000 in
theorem mask11_no (x : Sp) (bx bm bf by_ : Nat) (y m f : Int) (W : World) (hx : x.Ok) (hS : SpIn W bx x) (hm : W.cell? ⟨bm, 0, none⟩ = some (.int .i64 m)) (q : hasB x.n.b m = false) :
    Calls Tryz.prog 53 #[.pointer (some ⟨bx, 0, none⟩), .pointer (some ⟨bm, 0, none⟩), .pointer (some ⟨bf, 0, none⟩), .pointer (some ⟨by_, 0, none⟩)] W
      fun e w' => e = .returned (.tuple #[.int .u32 0, .int .i64 0]) ∧ Below W.heap.size W w' := by
  have h1 := fun w => has_any x.n.b x.n.s m w hx.n
  rw [q] at h1
  have h1 := fun w => Lib.hid (h1 w)
  clear q
  obtain ⟨c0, c1, c2, c3, c4, c5, c6, c7, c8, c9⟩ := hS
  go_enter Tryz.func53, Tryz.ntmps53
  go_wp2_with fail
  refine (h1 _).out.mono ?_
  rintro e w1 ⟨rfl, hb⟩
  go_wp2
  go_ret2
  exact ⟨rfl, hb⟩

set_option maxRecDepth 100000 in
set_option maxHeartbeats 2000000 in
theorem mask11_yes (x : Sp) (bx bm bf by_ : Nat) (y m f : Int) (W : World) (hx : x.Ok) (h0 : 0 ≤ f) (h1 : f ≤ 376199) (hS : SpIn W bx x) (hm : W.cell? ⟨bm, 0, none⟩ = some (.int .i64 m))
    (hf : W.cell? ⟨bf, 0, none⟩ = some (.int .i64 f)) (hy : W.cell? ⟨by_, 0, none⟩ = some (.int .i64 y)) (q : hasB x.n.b m = true) :
    Calls Tryz.prog 53 #[.pointer (some ⟨bx, 0, none⟩), .pointer (some ⟨bm, 0, none⟩), .pointer (some ⟨bf, 0, none⟩), .pointer (some ⟨by_, 0, none⟩)] W
      fun e w' => e = .returned (.tuple #[.int .u32 (maskN x (weekI f) (lenI y m).toNat), .int .i64 0]) ∧ Below W.heap.size W w' := by
  have hq := fun w => has_any x.n.b x.n.s m w hx.n
  rw [q] at hq
  have hq := fun w => Lib.hid (hq w)
  clear q
  have hS0 := Lib.hid hS
  have hltS := hS.lt
  have ltm := World.block_lt_of_cell? _ _ hm
  have ltf := World.block_lt_of_cell? _ _ hf
  have lty := World.block_lt_of_cell? _ _ hy
  obtain ⟨c0, c1, c2, c3, c4, c5, c6, c7, c8, c9⟩ := hS
  have hwk : 0 ≤ weekI f ∧ weekI f < 7 := by unfold weekI; omega
  obtain ⟨hw0, hw1⟩ := hwk
  have hln := lenI_bd y m
  obtain ⟨hl0, hl1⟩ := hln
  go_enter Tryz.func53, Tryz.ntmps53
  go_wp2_with fail
  refine (hq _).out.mono ?_
  rintro e w1 ⟨rfl, hb1⟩
  have hf1 := (hb1.cell (p := ⟨bf, 0, none⟩) ltf).trans hf
  have hm1 := (hb1.cell (p := ⟨bm, 0, none⟩) ltm).trans hm
  have hy1 := (hb1.cell (p := ⟨by_, 0, none⟩) lty).trans hy
  have hS1 := hS0.out.below hb1 hltS
  obtain ⟨d0, d1, d2, d3, d4, d5, d6, d7, d8, d9⟩ := hS1
  go_wp2_with fail
  refine (week_q _ _ h0 h1).mono ?_
  rintro e w2 ⟨rfl, rfl⟩
  go_wp2_with fail
  refine (by_any x _).mono ?_
  rintro e w2 ⟨rfl, rfl⟩
  generalize hW : w1.alloc (.cells #[.int .u64 x.m.b, .bool x.m.s, .int .u64 x.h.b, .bool x.h.s, .int .u64 x.d.b, .bool x.d.s, .int .u64 x.n.b, .bool x.n.s, .int .u64 x.w.b, .bool x.w.s] 26) = w2
  have hSb : SpIn w2 w1.heap.size x := by subst hW; unfold SpIn; go_simp
  have hb2 : Below W.heap.size W w2 := by subst hW; exact hb1.alloc hb1.size _
  have hlt2 : w1.heap.size < w2.heap.size := by subst hW; simp
  have hm2 := (hb2.cell (p := ⟨bm, 0, none⟩) ltm).trans hm
  have hy2 := (hb2.cell (p := ⟨by_, 0, none⟩) lty).trans hy
  clear hW hf1 hm1 hy1 hb1 c0 c1 c2 c3 c4 c5 c6 c7 c8 c9 d0 d1 d2 d3 d4 d5 d6 d7 d8 d9
  go_wp2_with fail
  refine (length_q _ _ _).mono ?_
  rintro e w2 ⟨rfl, rfl⟩
  go_wp2
  have egb := eg_by x
  have hS2 := Lib.hid hSb
  clear hSb
  go_loopg [9, 26] ((lenI y m).toNat) (fun g v9 v26 W' => ∃ k : Nat, (k : Int) ≤ lenI y m ∧ (lenI y m).toNat ≤ g + k ∧ v9 = .int .u32 (maskN x (weekI f) k) ∧ v26 = .int .i64 k ∧ Below w2.heap.size w2 W')
  case atStart => exact ⟨0, by omega, by omega, rfl, rfl, Below.refl _ _⟩
  case round =>
    obtain ⟨k, hk, hg, rfl, rfl, hB⟩ := hrel
    by_cases hlt : (k : Int) < lenI y m
    · have hbf := byFn_any x ((k : Int) + 1) ((weekI f + k) % 7) w1.heap.size wr hx (hS2.out.below hB hlt2)
      have hmk : Hid (∀ d, dayOn x ((k : Int) + 1) ((weekI f + k) % 7) = d → maskN x (weekI f) (k + 1) = maskN x (weekI f) k + if d = true then 2 ^ (k + 1) else 0) := fun d h => by simp only [maskN, h]
      cases hd : dayOn x ((k : Int) + 1) ((weekI f + k) % 7)
      · rw [hd] at hbf
        have hbf := Lib.hid hbf
        have hmk := Lib.hid (hmk.out _ hd)
        clear hd
        go_wp2_with fail
        refine hbf.out.mono ?_
        rintro e w3 ⟨rfl, hb3⟩
        go_wp2
        go_roundg (gk - 1)
        case measure => omega
        case rel => exact ⟨k + 1, by omega, by omega, by rw [hmk.out]; simp, by simp, hB.trans (hb3.mono hB.size)⟩
      · rw [hd] at hbf
        have hbf := Lib.hid hbf
        have hmk := Lib.hid (hmk.out _ hd)
        clear hd
        go_wp2_with fail
        refine hbf.out.mono ?_
        rintro e w3 ⟨rfl, hb3⟩
        go_wp2
        go_roundg (gk - 1)
        case measure => omega
        case rel => exact ⟨k + 1, by omega, by omega, by rw [hmk.out, or_mask _ k (maskN_lt x (weekI f) k) (by omega)]; simp, by simp, hB.trans (hb3.mono hB.size)⟩
    · go_wp2
      go_ret2
      exact ⟨by rw [show (lenI y m).toNat = k by omega]; rfl, hb2.trans (hB.mono (by have := hb2.size; omega))⟩

end Go.Proofs.YtkdejfedigiohaaGreatDoor
