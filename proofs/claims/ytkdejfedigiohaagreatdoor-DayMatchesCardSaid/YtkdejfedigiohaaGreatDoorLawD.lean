/- complinelaw21.DayMatches: the walk. -/
import Derived.Test.YtkdejfedigiohaaGreatDoorRefs
import Derived.Test.YtkdejfedigiohaaGreatDoorLawP
namespace Go.Proofs.YtkdejfedigiohaaGreatDoor
open Go.RowKit Go.Proofs.YtkdejfedigiohaaGreatDoorW.PrintWords Go.Proofs.YtkdejfedigiohaaGreatDoorW.PrintLast Go.Proofs.YtkdejfedigiohaaGreatDoorW.PrintMore
set_option linter.unusedVariables false
set_option linter.unusedSimpArgs false

open Go.Proofs.YtkdejfedigiohaaGreatDoor.PR

theorem rcount_any (b : Int) (s : Bool) (w : World) (hb : U64 b) :
    Calls Tryz.prog 18 #[.agg #[.int .u64 b, .bool s]] w fun e w' => e = .returned (.int .i64 (cntI b)) ∧ Below w.heap.size w w' :=
  complineref18_Count.calls 200 b s _ w (rCount b s hb)
theorem rmatch_any (x : Sp) (t : Int) (w : World) (p : Bool) (e0 : Int) (h : rM x t = some (p, e0)) :
    Calls Tryz.prog 16 #[.agg #[.int .u64 x.m.b, .bool x.m.s, .int .u64 x.h.b, .bool x.h.s, .int .u64 x.d.b, .bool x.d.s, .int .u64 x.n.b, .bool x.n.s, .int .u64 x.w.b, .bool x.w.s], .int .i64 t] w fun e w' => e = .returned (.tuple #[.bool p, .int .i64 e0]) ∧ Below w.heap.size w w' :=
  complineref21_Match.calls 3000 _ _ _ _ _ _ _ _ _ _ t p e0 w h

set_option maxRecDepth 100000 in
set_option maxHeartbeats 2000000 in
theorem matches_walk (x : Sp) (t : Int) (w : World) (hE : Env w) (h8 : 8 ≤ w.heap.size) (hx : x.Ok) (p : Bool) (e0 g n : Int)
    (h1 : ∀ W, Calls Tryz.prog 15 #[.agg #[.int .u64 x.m.b, .bool x.m.s, .int .u64 x.h.b, .bool x.h.s, .int .u64 x.d.b, .bool x.d.s, .int .u64 x.n.b, .bool x.n.s, .int .u64 x.w.b, .bool x.w.s], .int .i64 t] W fun e w' => e = .returned (.tuple #[.bool p, .int .i64 e0]) ∧ Below W.heap.size W w')
    (h2 : ∀ W, Calls Tryz.prog 16 #[.agg #[.int .u64 x.m.b, .bool x.m.s, .int .u64 x.h.b, .bool x.h.s, .int .u64 x.d.b, .bool x.d.s, .int .u64 x.n.b, .bool x.n.s, .int .u64 x.w.b, .bool x.w.s], .int .i64 t] W fun e w' => e = .returned (.tuple #[.bool p, .int .i64 e0]) ∧ Below W.heap.size W w')
    (h3 : ∀ W, Calls Tryz.prog 17 #[.agg #[.int .u64 x.m.b, .bool x.m.s, .int .u64 x.h.b, .bool x.h.s, .int .u64 x.d.b, .bool x.d.s, .int .u64 x.n.b, .bool x.n.s, .int .u64 x.w.b, .bool x.w.s]] W fun e w' => e = .returned (.tuple #[.int .i64 n, .int .i64 g]) ∧ Below W.heap.size W w')
    (hcase : (g = 2 ∧ n = 0 ∧ e0 = 2) ∨ (g = 0 ∧ n = wrap64 (cntI x.h.b * cntI x.m.b) ∧ (e0 = 0 ∨ e0 = 1))) :
    Calls Tryz.prog 3 #[.agg #[.int .u64 x.m.b, .bool x.m.s, .int .u64 x.h.b, .bool x.h.s, .int .u64 x.d.b, .bool x.d.s, .int .u64 x.n.b, .bool x.n.s, .int .u64 x.w.b, .bool x.w.s], .int .i64 t] w fun e w' => e = .returned (.bool true) ∧ Below w.heap.size w w' := by
  have h1 := fun W => Lib.hid (h1 W)
  have h2 := fun W => Lib.hid (h2 W)
  have h3 := fun W => Lib.hid (h3 W)
  have hcH := Lib.hid hcase
  clear hcase
  go_enter Tryz.func3, Tryz.ntmps3
  go_wp2_with fail
  have hb0 : Below w.heap.size w (w.alloc (.cells #[.int .u64 x.m.b, .bool x.m.s, .int .u64 x.h.b, .bool x.h.s, .int .u64 x.d.b, .bool x.d.s, .int .u64 x.n.b, .bool x.n.s, .int .u64 x.w.b, .bool x.w.s] 26)) := (Below.refl _ _).alloc (Nat.le_refl _) _
  refine (works_ok _ (hE.below hb0) (Nat.le_trans h8 hb0.size)).mono ?_
  rintro e w1 ⟨rfl, hb⟩
  have hX := blk_below (boxed w x) hb
  have hB := hb0.trans (hb.mono hb0.size)
  clear hb hb0
  obtain ⟨c0, c1, c2, c3, c4, c5, c6, c7, c8, c9⟩ := SpB.spIn (x := x) hX
  go_wp2_with fail
  refine (h1 _).out.mono ?_
  rintro e w2 ⟨rfl, hb⟩
  have hX2 := blk_below hX hb
  have hB2 := hB.trans (hb.mono hB.size)
  clear c0 c1 c2 c3 c4 c5 c6 c7 c8 c9 hX hB hb
  obtain ⟨c0, c1, c2, c3, c4, c5, c6, c7, c8, c9⟩ := SpB.spIn (x := x) hX2
  go_wp2_with fail
  refine (h2 _).out.mono ?_
  rintro e w3 ⟨rfl, hb⟩
  have hX3 := blk_below hX2 hb
  have hB3 := hB2.trans (hb.mono hB2.size)
  clear c0 c1 c2 c3 c4 c5 c6 c7 c8 c9 hX2 hB2 hb
  obtain ⟨c0, c1, c2, c3, c4, c5, c6, c7, c8, c9⟩ := SpB.spIn (x := x) hX3
  go_wp2_with fail
  refine (h3 _).out.mono ?_
  rintro e w4 ⟨rfl, hb⟩
  have hX4 := blk_below hX3 hb
  have hB4 := hB3.trans (hb.mono hB3.size)
  clear c0 c1 c2 c3 c4 c5 c6 c7 c8 c9 hX3 hB3 hb
  have hS0 := Lib.hid (SpB.spIn (x := x) hX4)
  have hltS := blk_lt hX4
  obtain ⟨c0, c1, c2, c3, c4, c5, c6, c7, c8, c9⟩ := SpB.spIn (x := x) hX4
  have HB1 : Below w4.heap.size w4 w4.drew := (Below.refl _ _).drew
  go_wp2
  refine start_ (n := 8) (S := fun w' => w'.cell? ⟨w.heap.size, 0, none⟩ = some (.int .u64 x.m.b) ∧ w'.cell? ⟨w.heap.size, 1, none⟩ = some (.bool x.m.s) ∧ w'.cell? ⟨w.heap.size, 2, none⟩ = some (.int .u64 x.h.b) ∧ w'.cell? ⟨w.heap.size, 3, none⟩ = some (.bool x.h.s) ∧ w'.cell? ⟨w.heap.size, 4, none⟩ = some (.int .u64 x.d.b) ∧ w'.cell? ⟨w.heap.size, 5, none⟩ = some (.bool x.d.s) ∧ w'.cell? ⟨w.heap.size, 6, none⟩ = some (.int .u64 x.n.b) ∧ w'.cell? ⟨w.heap.size, 7, none⟩ = some (.bool x.n.s) ∧ w'.cell? ⟨w.heap.size, 8, none⟩ = some (.int .u64 x.w.b) ∧ w'.cell? ⟨w.heap.size, 9, none⟩ = some (.bool x.w.s)) (ds := []) #[false, false, false, false, false, false, false, false] (by kernel_rfl) rfl rfl ⟨c0, c1, c2, c3, c4, c5, c6, c7, c8, c9⟩ (fun hHeld => ?_)
  refine pure_ (i := 0) (N := some 33) (v := ?_) (a' := ?_) #[true, false, false, false, false, false, false, false] rfl rfl (by kernel_rfl) (fun _ _ _ h => h) (Or.inl ⟨by rfl, ?_⟩) ?_ ?_
  rotate_left
  · intro w'
    go_simp
    with_reducible rfl
  rotate_left
  · simp only [Act.put, List.setIfInBounds_toArray, List.set_cons_zero, List.set_cons_succ, i64_w, i32_w]
    rfl
  refine pure_ (i := 3) (N := some 36) (v := ?_) (a' := ?_) #[true, false, false, true, false, false, false, false] rfl rfl (by kernel_rfl) (fun _ _ _ h => h) (Or.inl ⟨by rfl, ?_⟩) ?_ ?_
  rotate_left
  · intro w'
    go_simp
    with_reducible rfl
  rotate_left
  · simp only [Act.put, List.setIfInBounds_toArray, List.set_cons_zero, List.set_cons_succ, i64_w, i32_w]
    rfl
  refine take_ (i := 1) (N := some 34) (v := ?_) (a' := ?_) #[true, true, false, true, false, false, false, false] rfl rfl (by kernel_rfl) (fun _ _ _ h => h) (Or.inl ⟨by rfl, ?_⟩) hHeld ?_ ?_
  rotate_left
  · rintro w' ⟨s0, s1, s2, s3, s4, s5, s6, s7, s8, s9⟩
    go_simp
    with_reducible rfl
  rotate_left
  · simp only [Act.put, List.setIfInBounds_toArray, List.set_cons_zero, List.set_cons_succ, i64_w, i32_w]
    rfl
  refine take_ (i := 4) (N := some 37) (v := ?_) (a' := ?_) #[true, true, false, true, true, false, false, false] rfl rfl (by kernel_rfl) (fun _ _ _ h => h) (Or.inl ⟨by rfl, ?_⟩) hHeld ?_ ?_
  rotate_left
  · rintro w' ⟨s0, s1, s2, s3, s4, s5, s6, s7, s8, s9⟩
    go_simp
    with_reducible rfl
  rotate_left
  · simp only [Act.put, List.setIfInBounds_toArray, List.set_cons_zero, List.set_cons_succ, i64_w, i32_w]
    rfl
  refine one_ (i := 2) (N := some 35) #[true, true, true, true, true, false, false, false] rfl rfl (by kernel_rfl) (by decide) (fun K hK => ?_)
  refine goes_ Tryz.func18 (by kernel_rfl) rfl #[.agg #[.int .u64 x.h.b, .bool x.h.s]] (by rfl) rfl rfl (by simp only [List.map_toArray, List.map_cons, List.map_nil]; rfl) ?_
  with_reducible refine (rcount_any x.h.b x.h.s _ hx.h).mono ?_
  rintro e w6 ⟨rfl, hb⟩
  refine ⟨_, rfl, ?_⟩
  have HB2 := HB1.trans (hb.mono HB1.size)
  clear hb
  obtain ⟨c0, c1, c2, c3, c4, c5, c6, c7, c8, c9⟩ := hS0.out.below HB2 hltS
  refine hK.out _ _ ⟨c0, c1, c2, c3, c4, c5, c6, c7, c8, c9⟩ (fun hHeld => ?_)
  clear hK K
  refine norm_ (a' := ?_) ?_ ?_
  rotate_left
  · show Act.put _ (some 35) _ = _
    simp only [Act.put, List.setIfInBounds_toArray, List.set_cons_zero, List.set_cons_succ, i64_w, i32_w]
    rfl
  refine one_ (i := 5) (N := some 38) #[true, true, true, true, true, true, false, false] rfl rfl (by kernel_rfl) (by decide) (fun K hK => ?_)
  refine goes_ Tryz.func18 (by kernel_rfl) rfl #[.agg #[.int .u64 x.m.b, .bool x.m.s]] (by rfl) rfl rfl (by simp only [List.map_toArray, List.map_cons, List.map_nil]; rfl) ?_
  with_reducible refine (rcount_any x.m.b x.m.s _ hx.m).mono ?_
  rintro e w7 ⟨rfl, hb⟩
  refine ⟨_, rfl, ?_⟩
  have HB3 := HB2.trans (hb.mono HB2.size)
  clear hb
  obtain ⟨c0, c1, c2, c3, c4, c5, c6, c7, c8, c9⟩ := hS0.out.below HB3 hltS
  refine hK.out _ _ ⟨c0, c1, c2, c3, c4, c5, c6, c7, c8, c9⟩ (fun hHeld => ?_)
  clear hK K
  refine norm_ (a' := ?_) ?_ ?_
  rotate_left
  · show Act.put _ (some 38) _ = _
    simp only [Act.put, List.setIfInBounds_toArray, List.set_cons_zero, List.set_cons_succ, i64_w, i32_w]
    rfl
  refine pure_ (i := 6) (N := some 39) (v := ?_) (a' := ?_) #[true, true, true, true, true, true, true, false] rfl rfl (by kernel_rfl) (fun _ _ _ h => h) (Or.inl ⟨by rfl, ?_⟩) ?_ ?_
  rotate_left
  · intro w'
    go_simp
    with_reducible rfl
  rotate_left
  · simp only [Act.put, List.setIfInBounds_toArray, List.set_cons_zero, List.set_cons_succ, i64_w, i32_w]
    rfl
  refine pure_ (i := 7) (N := some 12) (v := ?_) (a' := ?_) #[true, true, true, true, true, true, true, true] rfl rfl (by kernel_rfl) (fun _ _ _ h => h) (Or.inl ⟨by rfl, ?_⟩) ?_ ?_
  rotate_left
  · intro w'
    go_simp
    with_reducible rfl
  rotate_left
  · simp only [Act.put, List.setIfInBounds_toArray, List.set_cons_zero, List.set_cons_succ, i64_w, i32_w]
    rfl
  refine done_ (by kernel_rfl) ?_

  have hBe := hB4.trans (HB3.mono hB4.size)
  clear c0 c1 c2 c3 c4 c5 c6 c7 c8 c9 hX4 hS0 HB1 HB2 hHeld
  have hc := hcH.out
  clear hcH
  rcases hc with ⟨rfl, rfl, rfl⟩ | ⟨rfl, rfl, rfl | rfl⟩
  all_goals
    go_wp2
    go_ret
    exact ⟨ret_bool (by simp), hBe⟩

theorem matches_any (x : Sp) (t : Int) (w : World) (hx : x.Ok) (hE : Env w) (h8 : 8 ≤ w.heap.size) :
    Calls Tryz.prog 3 #[.agg #[.int .u64 x.m.b, .bool x.m.s, .int .u64 x.h.b, .bool x.h.s, .int .u64 x.d.b, .bool x.d.s, .int .u64 x.n.b, .bool x.n.s, .int .u64 x.w.b, .bool x.w.s], .int .i64 t] w fun e w' => e = .returned (.bool true) ∧ Below w.heap.size w w' := by
  by_cases hk : (spChk x).2 = 0
  · by_cases h : 0 ≤ t ∧ t ≤ 541727999
    · obtain ⟨y, m, d, hD, _⟩ := rOf t h.1 h.2 3000 (by omega)
      refine matches_walk x t w hE h8 hx (matchI x m d (t / 60 % 24) (t % 60) (weekI (t / 1440))) 0 0 (minutesI x) (fun W => ?_) (fun W => rmatch_any x t W _ _ (rMatch_ok x hx t hk h.1 h.2 y m d hD)) (fun W => minutes_ok x W hx hk) (.inr ⟨rfl, rfl, .inl rfl⟩)
      refine (match_ok x t W hx hk h.1 h.2).mono ?_
      rintro e w' ⟨⟨y', m', d', hD', rfl⟩, hb⟩
      obtain ⟨rfl, rfl, rfl⟩ := IsDate.inj hD' hD
      exact ⟨rfl, hb⟩
    · exact matches_walk x t w hE h8 hx false 1 0 (minutesI x) (fun W => match_no x t W hx hk (by omega)) (fun W => rmatch_any x t W _ _ (rMatch_no x hx t hk (by omega))) (fun W => minutes_ok x W hx hk) (.inr ⟨rfl, rfl, .inr rfl⟩)
  · exact matches_walk x t w hE h8 hx false 2 2 0 (fun W => match_bad x t W hx hk) (fun W => rmatch_any x t W _ _ (rMatch_bad x hx t hk)) (fun W => minutes_bad x W hx hk) (.inl ⟨rfl, rfl, rfl⟩)

end Go.Proofs.YtkdejfedigiohaaGreatDoor
