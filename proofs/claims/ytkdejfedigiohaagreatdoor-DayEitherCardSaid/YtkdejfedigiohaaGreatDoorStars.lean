/- spec.Stars and spec.With. -/
import Derived.Test.YtkdejfedigiohaaGreatDoorSpecP
namespace Go.Proofs.YtkdejfedigiohaaGreatDoor
open Go.RowKit Go.Proofs.YtkdejfedigiohaaGreatDoorW.PrintWords Go.Proofs.YtkdejfedigiohaaGreatDoorW.PrintLast Go.Proofs.YtkdejfedigiohaaGreatDoorW.PrintMore
set_option linter.unusedVariables false
set_option linter.unusedSimpArgs false

open Go.Proofs.YtkdejfedigiohaaGreatDoor.PR

theorem all_any (k : Int) (w : World) (h0 : 0 ≤ k) (h1 : k ≤ 4) : Calls Tryz.prog 56 #[.int .i64 k] w fun e w' => e = .returned (.tuple #[.agg #[.int .u64 (allB k), .bool true], .int .i64 0]) ∧ Below w.heap.size w w' := by
  obtain rfl | rfl | rfl | rfl | rfl : k = 0 ∨ k = 1 ∨ k = 2 ∨ k = 3 ∨ k = 4 := by omega
  all_goals exact field_All.calls _ _ _ _ w (by decide +kernel)
def spStars : Sp := ⟨⟨allB 0, true⟩, ⟨allB 1, true⟩, ⟨allB 2, true⟩, ⟨allB 3, true⟩, ⟨allB 4, true⟩⟩

structure SpJ (w : World) (xb cb : Nat) (x : Sp) (W : World) : Prop where
  below : Below w.heap.size w W
  r : SpB W w.heap.size sp0
  x : SpB W xb x
  c : W.cell? ⟨cb, 0, none⟩ = some (.pointer (some ⟨xb, 0, none⟩))
  lo : w.heap.size < xb
  cx : cb ≠ xb
  cl : cb < W.heap.size
theorem SpJ.on {w : World} {xb cb : Nat} {x : Sp} {W W' : World} (h : SpJ w xb cb x W) (hb : Below W.heap.size W W') : SpJ w xb cb x W' where
  below := h.below.trans (hb.mono h.below.size)
  r := blk_below h.r hb
  x := blk_below h.x hb
  c := (hb.cell (p := ⟨cb, 0, none⟩) h.cl).trans h.c
  lo := h.lo
  cx := h.cx
  cl := Nat.lt_of_lt_of_le h.cl hb.size
theorem SpJ.put {w : World} {xb cb : Nat} {x x' : Sp} {W : World} (h : SpJ w xb cb x W) (i j : Nat) (u v : Value) (hx : SpB ((W.setCell ⟨xb, i, none⟩ u).setCell ⟨xb, j, none⟩ v) xb x') :
    SpJ w xb cb x' ((W.setCell ⟨xb, i, none⟩ u).setCell ⟨xb, j, none⟩ v) := by
  have hK : KX xb W ((W.setCell ⟨xb, i, none⟩ u).setCell ⟨xb, j, none⟩ v) := (KX.set W i u).trans (KX.set _ j v)
  exact ⟨h.below.trans (hK.below (Nat.le_of_lt h.lo) h.below.size), hK.blk h.r (by have := h.lo; omega), hx, (World.cell?_of_block (w := W) (hK.block cb h.cl h.cx)).trans h.c, h.lo, h.cx, Nat.lt_of_lt_of_le h.cl hK.size⟩

set_option maxRecDepth 100000 in
set_option maxHeartbeats 2000000 in
theorem stars_any (w : World) : Calls Tryz.prog 23 #[] w fun e w' => e = .returned (.agg #[.int .u64 spStars.m.b, .bool spStars.m.s, .int .u64 spStars.h.b, .bool spStars.h.s, .int .u64 spStars.d.b, .bool spStars.d.s, .int .u64 spStars.n.b, .bool spStars.n.s, .int .u64 spStars.w.b, .bool spStars.w.s]) ∧ Below w.heap.size w w' := by
  go_enter Tryz.func23, Tryz.ntmps23
  go_wp2_with fail
  refine (fields_any _ _).mono ?_
  rintro e w2 ⟨rfl, hc, hsz, hb2⟩
  have hI : SpJ w (w.heap.size + 1) (w.heap.size + 1 + 1) sp0 w2 := by
    have hb : Below w.heap.size w ((w.alloc (.cells #[.int .u64 sp0.m.b, .bool sp0.m.s, .int .u64 sp0.h.b, .bool sp0.h.s, .int .u64 sp0.d.b, .bool sp0.d.s, .int .u64 sp0.n.b, .bool sp0.n.s, .int .u64 sp0.w.b, .bool sp0.w.s] 26)).alloc (.cells #[.int .u64 sp0.m.b, .bool sp0.m.s, .int .u64 sp0.h.b, .bool sp0.h.s, .int .u64 sp0.d.b, .bool sp0.d.s, .int .u64 sp0.n.b, .bool sp0.n.s, .int .u64 sp0.w.b, .bool sp0.w.s] 26)) := ((Below.refl _ _).alloc (Nat.le_refl _) _).alloc (by simp) _
    have hx : SpB ((w.alloc (.cells #[.int .u64 sp0.m.b, .bool sp0.m.s, .int .u64 sp0.h.b, .bool sp0.h.s, .int .u64 sp0.d.b, .bool sp0.d.s, .int .u64 sp0.n.b, .bool sp0.n.s, .int .u64 sp0.w.b, .bool sp0.w.s] 26)).alloc (.cells #[.int .u64 sp0.m.b, .bool sp0.m.s, .int .u64 sp0.h.b, .bool sp0.h.s, .int .u64 sp0.d.b, .bool sp0.d.s, .int .u64 sp0.n.b, .bool sp0.n.s, .int .u64 sp0.w.b, .bool sp0.w.s] 26)) (w.heap.size + 1) sp0 := blk_new2' _ _ _ (by simp)
    have hr : SpB ((w.alloc (.cells #[.int .u64 sp0.m.b, .bool sp0.m.s, .int .u64 sp0.h.b, .bool sp0.h.s, .int .u64 sp0.d.b, .bool sp0.d.s, .int .u64 sp0.n.b, .bool sp0.n.s, .int .u64 sp0.w.b, .bool sp0.w.s] 26)).alloc (.cells #[.int .u64 sp0.m.b, .bool sp0.m.s, .int .u64 sp0.h.b, .bool sp0.h.s, .int .u64 sp0.d.b, .bool sp0.d.s, .int .u64 sp0.n.b, .bool sp0.n.s, .int .u64 sp0.w.b, .bool sp0.w.s] 26)) w.heap.size sp0 := blk_alloc (blk_new _ _) _
    refine ⟨hb.trans (hb2.mono (by simp; omega)), blk_below hr hb2, blk_below hx hb2, ?_, by omega, by omega, by simp at hsz; omega⟩
    simpa only [World.size_alloc] using hc
  simp only [World.size_alloc]
  clear hb2 hsz hc
  generalize w.heap.size + 1 + 1 = cb at *
  generalize w.heap.size + 1 = xb at *
  go_wp2_with fail
  refine wp_loop_rounds 6 ?_
  -- round 0
  rw [rounds_succ]
  have ix := sfi0
  go_wp2_with fail
  refine (sfl0 ⟨cb, 0, none⟩ xb _ hI.c).mono ?_
  rintro e w3 ⟨rfl, rfl⟩
  go_wp2_with fail
  refine (all_any 0 _ (by decide) (by decide)).mono ?_
  rintro e w4 ⟨rfl, hb⟩
  have hI4 := hI.on hb
  clear hI hb ix
  have x0 := blk_cell hI4.x 0
  have x1 := blk_cell hI4.x 1
  have z0 := blk_frozen hI4.x 0
  have z1 := blk_frozen hI4.x 1
  simp only [List.getElem?_toArray, List.getElem?_cons_succ, List.getElem?_cons_zero] at x0 x1
  have hI5 := hI4.put 0 1 _ _ (hI4.x.put0 (allB 0) true)
  go_wp2_with fail
  clear hI4 x0 x1 z0 z1
  generalize (w4.setCell ⟨xb, 0, none⟩ _).setCell ⟨xb, 1, none⟩ _ = w2 at hI5 ⊢
  have hI := hI5
  clear hI5
  -- round 1
  rw [rounds_succ]
  have ix := sfi1
  go_wp2_with fail
  refine (sfl1 ⟨cb, 0, none⟩ xb _ hI.c).mono ?_
  rintro e w3 ⟨rfl, rfl⟩
  go_wp2_with fail
  refine (all_any 1 _ (by decide) (by decide)).mono ?_
  rintro e w4 ⟨rfl, hb⟩
  have hI4 := hI.on hb
  clear hI hb ix
  have x0 := blk_cell hI4.x 2
  have x1 := blk_cell hI4.x 3
  have z0 := blk_frozen hI4.x 2
  have z1 := blk_frozen hI4.x 3
  simp only [List.getElem?_toArray, List.getElem?_cons_succ, List.getElem?_cons_zero] at x0 x1
  have hI5 := hI4.put 2 3 _ _ (hI4.x.put1 (allB 1) true)
  go_wp2_with fail
  clear hI4 x0 x1 z0 z1
  generalize (w4.setCell ⟨xb, 2, none⟩ _).setCell ⟨xb, 3, none⟩ _ = w2 at hI5 ⊢
  have hI := hI5
  clear hI5
  -- round 2
  rw [rounds_succ]
  have ix := sfi2
  go_wp2_with fail
  refine (sfl2 ⟨cb, 0, none⟩ xb _ hI.c).mono ?_
  rintro e w3 ⟨rfl, rfl⟩
  go_wp2_with fail
  refine (all_any 2 _ (by decide) (by decide)).mono ?_
  rintro e w4 ⟨rfl, hb⟩
  have hI4 := hI.on hb
  clear hI hb ix
  have x0 := blk_cell hI4.x 4
  have x1 := blk_cell hI4.x 5
  have z0 := blk_frozen hI4.x 4
  have z1 := blk_frozen hI4.x 5
  simp only [List.getElem?_toArray, List.getElem?_cons_succ, List.getElem?_cons_zero] at x0 x1
  have hI5 := hI4.put 4 5 _ _ (hI4.x.put2 (allB 2) true)
  go_wp2_with fail
  clear hI4 x0 x1 z0 z1
  generalize (w4.setCell ⟨xb, 4, none⟩ _).setCell ⟨xb, 5, none⟩ _ = w2 at hI5 ⊢
  have hI := hI5
  clear hI5
  -- round 3
  rw [rounds_succ]
  have ix := sfi3
  go_wp2_with fail
  refine (sfl3 ⟨cb, 0, none⟩ xb _ hI.c).mono ?_
  rintro e w3 ⟨rfl, rfl⟩
  go_wp2_with fail
  refine (all_any 3 _ (by decide) (by decide)).mono ?_
  rintro e w4 ⟨rfl, hb⟩
  have hI4 := hI.on hb
  clear hI hb ix
  have x0 := blk_cell hI4.x 6
  have x1 := blk_cell hI4.x 7
  have z0 := blk_frozen hI4.x 6
  have z1 := blk_frozen hI4.x 7
  simp only [List.getElem?_toArray, List.getElem?_cons_succ, List.getElem?_cons_zero] at x0 x1
  have hI5 := hI4.put 6 7 _ _ (hI4.x.put3 (allB 3) true)
  go_wp2_with fail
  clear hI4 x0 x1 z0 z1
  generalize (w4.setCell ⟨xb, 6, none⟩ _).setCell ⟨xb, 7, none⟩ _ = w2 at hI5 ⊢
  have hI := hI5
  clear hI5
  -- round 4
  rw [rounds_succ]
  have ix := sfi4
  go_wp2_with fail
  refine (sfl4 ⟨cb, 0, none⟩ xb _ hI.c).mono ?_
  rintro e w3 ⟨rfl, rfl⟩
  go_wp2_with fail
  refine (all_any 4 _ (by decide) (by decide)).mono ?_
  rintro e w4 ⟨rfl, hb⟩
  have hI4 := hI.on hb
  clear hI hb ix
  have x0 := blk_cell hI4.x 8
  have x1 := blk_cell hI4.x 9
  have z0 := blk_frozen hI4.x 8
  have z1 := blk_frozen hI4.x 9
  simp only [List.getElem?_toArray, List.getElem?_cons_succ, List.getElem?_cons_zero] at x0 x1
  have hI5 := hI4.put 8 9 _ _ (hI4.x.put4 (allB 4) true)
  go_wp2_with fail
  clear hI4 x0 x1 z0 z1
  generalize (w4.setCell ⟨xb, 8, none⟩ _).setCell ⟨xb, 9, none⟩ _ = w2 at hI5 ⊢
  have hI := hI5
  clear hI5
  rw [rounds_succ]
  have hr := hI.r
  obtain ⟨c0, c1, c2, c3, c4, c5, c6, c7, c8, c9⟩ := hI.x.spIn
  obtain ⟨d0, d1, d2, d3, d4, d5, d6, d7, d8, d9⟩ := hr.spIn
  obtain ⟨z0, z1, z2, z3, z4, z5, z6, z7, z8, z9⟩ := hr.fz
  have hB := hI.below
  clear hI
  go_wp2
  have hB9 : Below w.heap.size w ((((((((((w2.setCell ⟨w.heap.size, 0, none⟩ (.int .u64 (allB 0))).setCell ⟨w.heap.size, 1, none⟩ (.bool true)).setCell ⟨w.heap.size, 2, none⟩ (.int .u64 (allB 1))).setCell ⟨w.heap.size, 3, none⟩ (.bool true)).setCell ⟨w.heap.size, 4, none⟩ (.int .u64 (allB 2))).setCell ⟨w.heap.size, 5, none⟩ (.bool true)).setCell ⟨w.heap.size, 6, none⟩ (.int .u64 (allB 3))).setCell ⟨w.heap.size, 7, none⟩ (.bool true)).setCell ⟨w.heap.size, 8, none⟩ (.int .u64 (allB 4))).setCell ⟨w.heap.size, 9, none⟩ (.bool true)) := ((((((((((hB.setCell (p := ⟨w.heap.size, 0, none⟩) (Nat.le_refl _) _).setCell (p := ⟨w.heap.size, 1, none⟩) (Nat.le_refl _) _).setCell (p := ⟨w.heap.size, 2, none⟩) (Nat.le_refl _) _).setCell (p := ⟨w.heap.size, 3, none⟩) (Nat.le_refl _) _).setCell (p := ⟨w.heap.size, 4, none⟩) (Nat.le_refl _) _).setCell (p := ⟨w.heap.size, 5, none⟩) (Nat.le_refl _) _).setCell (p := ⟨w.heap.size, 6, none⟩) (Nat.le_refl _) _).setCell (p := ⟨w.heap.size, 7, none⟩) (Nat.le_refl _) _).setCell (p := ⟨w.heap.size, 8, none⟩) (Nat.le_refl _) _).setCell (p := ⟨w.heap.size, 9, none⟩) (Nat.le_refl _) _)
  have hr9 : SpB ((((((((((w2.setCell ⟨w.heap.size, 0, none⟩ (.int .u64 (allB 0))).setCell ⟨w.heap.size, 1, none⟩ (.bool true)).setCell ⟨w.heap.size, 2, none⟩ (.int .u64 (allB 1))).setCell ⟨w.heap.size, 3, none⟩ (.bool true)).setCell ⟨w.heap.size, 4, none⟩ (.int .u64 (allB 2))).setCell ⟨w.heap.size, 5, none⟩ (.bool true)).setCell ⟨w.heap.size, 6, none⟩ (.int .u64 (allB 3))).setCell ⟨w.heap.size, 7, none⟩ (.bool true)).setCell ⟨w.heap.size, 8, none⟩ (.int .u64 (allB 4))).setCell ⟨w.heap.size, 9, none⟩ (.bool true)) w.heap.size ⟨⟨allB 0, true⟩, ⟨allB 1, true⟩, ⟨allB 2, true⟩, ⟨allB 3, true⟩, ⟨allB 4, true⟩⟩ := (SpB.put4 (SpB.put3 (SpB.put2 (SpB.put1 (SpB.put0 hr (allB 0) (true)) (allB 1) (true)) (allB 2) (true)) (allB 3) (true)) (allB 4) (true))
  clear c0 c1 c2 c3 c4 c5 c6 c7 c8 c9 d0 d1 d2 d3 d4 d5 d6 d7 d8 d9 z0 z1 z2 z3 z4 z5 z6 z7 z8 z9 hr hB
  generalize ((((((((((w2.setCell ⟨w.heap.size, 0, none⟩ (.int .u64 (allB 0))).setCell ⟨w.heap.size, 1, none⟩ (.bool true)).setCell ⟨w.heap.size, 2, none⟩ (.int .u64 (allB 1))).setCell ⟨w.heap.size, 3, none⟩ (.bool true)).setCell ⟨w.heap.size, 4, none⟩ (.int .u64 (allB 2))).setCell ⟨w.heap.size, 5, none⟩ (.bool true)).setCell ⟨w.heap.size, 6, none⟩ (.int .u64 (allB 3))).setCell ⟨w.heap.size, 7, none⟩ (.bool true)).setCell ⟨w.heap.size, 8, none⟩ (.int .u64 (allB 4))).setCell ⟨w.heap.size, 9, none⟩ (.bool true)) = w9 at *
  obtain ⟨c0, c1, c2, c3, c4, c5, c6, c7, c8, c9⟩ := hr9.spIn
  refine bodyPost_ret (v := .agg #[.int .u64 (allB 0), .bool (true), .int .u64 (allB 1), .bool (true), .int .u64 (allB 2), .bool (true), .int .u64 (allB 3), .bool (true), .int .u64 (allB 4), .bool (true)]) (by simp [results, Tryz.results23, go_sem, c0, c1, c2, c3, c4, c5, c6, c7, c8, c9]) rfl ⟨rfl, hB9⟩

theorem known2_q (k : Int) (w : World) (hk : k = 2 ∨ k = 4) : Calls Tryz.prog 57 #[.int .i64 k] w fun e w' => e = .returned (.bool true) ∧ w = w' := by
  obtain rfl | rfl := hk
  all_goals
    go_enter Tryz.func57, Tryz.ntmps57
    go_wp2
    go_ret
    exact ⟨rfl, rfl⟩

set_option maxRecDepth 100000 in
set_option maxHeartbeats 2000000 in
theorem with2 (x : Sp) (b : Int) (s : Bool) (w : World) :
    Calls Tryz.prog 24 #[.agg #[.int .u64 x.m.b, .bool x.m.s, .int .u64 x.h.b, .bool x.h.s, .int .u64 x.d.b, .bool x.d.s, .int .u64 x.n.b, .bool x.n.s, .int .u64 x.w.b, .bool x.w.s], .int .i64 2, .agg #[.int .u64 b, .bool s]] w fun e w' => e = .returned (.tuple #[.agg #[.int .u64 (x.m.b), .bool (x.m.s), .int .u64 (x.h.b), .bool (x.h.s), .int .u64 (b), .bool (s), .int .u64 (x.n.b), .bool (x.n.s), .int .u64 (x.w.b), .bool (x.w.s)], .int .i64 0]) ∧ Below w.heap.size w w' := by
  go_enter Tryz.func24, Tryz.ntmps24
  go_wp2_with fail
  refine (known2_q 2 _ (by omega)).mono ?_
  rintro e w1 ⟨rfl, rfl⟩
  have ix := sfi2
  go_wp2
  generalize hW : ((w.alloc (.cells #[.int .u64 x.m.b, .bool x.m.s, .int .u64 x.h.b, .bool x.h.s, .int .u64 x.d.b, .bool x.d.s, .int .u64 x.n.b, .bool x.n.s, .int .u64 x.w.b, .bool x.w.s] 26)).alloc (.cells #[.int .u64 b, .bool s] 24)).alloc (.cells #[.int .u64 0, .bool false, .int .u64 0, .bool false, .int .u64 0, .bool false, .int .u64 0, .bool false, .int .u64 0, .bool false] 26) = W3
  have hX : SpB W3 w.heap.size x := hW ▸ blk_alloc (blk_alloc (blk_new _ _) _) _
  have hF : W3.heap[w.heap.size + 1]? = some (.cells #[.int .u64 b, .bool s] 24 (0, 0)) := hW ▸ blk_alloc (blk_new2' _ _ _ (by simp)) _
  have hR : SpB W3 (w.heap.size + 1 + 1) sp0 := hW ▸ blk_new2' _ _ _ (by simp)
  have hB : Below w.heap.size w W3 := hW ▸ (((Below.refl _ _).alloc (Nat.le_refl _) _).alloc (by simp) _).alloc (by simp; omega) _
  have q0 : W3.drew.cell? ⟨w.heap.size + 1, 0, none⟩ = some (.int .u64 b) := blk_cell hF 0
  have q1 : W3.drew.cell? ⟨w.heap.size + 1, 1, none⟩ = some (.bool s) := blk_cell hF 1
  have hl1 : w.heap.size + 1 < W3.drew.heap.size := blk_lt hF
  clear hW
  refine start_ (n := 7) (S := fun w' => w'.cell? ⟨w.heap.size + 1, 0, none⟩ = some (.int .u64 b) ∧ w'.cell? ⟨w.heap.size + 1, 1, none⟩ = some (.bool s)) (ds := [6]) #[false, false, false, false, false, false, false] (by kernel_rfl) rfl rfl ⟨q0, q1⟩ (fun hHeld => ?_)
  refine pure_ (i := 1) (N := some 13) (v := ?_) (a' := ?_) #[false, true, false, false, false, false, false] rfl rfl (by kernel_rfl) (fun _ _ _ h => h) (Or.inl ⟨by rfl, ?_⟩) ?_ ?_
  rotate_left
  · intro w'
    go_simp
    with_reducible rfl
  rotate_left
  · simp only [Act.put, List.setIfInBounds_toArray, List.set_cons_zero, List.set_cons_succ, i64_w, i32_w]
    rfl
  refine take_ (i := 4) (N := some 16) (v := ?_) (a' := ?_) #[false, true, false, false, true, false, false] rfl rfl (by kernel_rfl) (fun _ _ _ h => h) (Or.inl ⟨by rfl, ?_⟩) hHeld ?_ ?_
  rotate_left
  · rintro w' ⟨s0, s1⟩
    go_simp
    with_reducible rfl
  rotate_left
  · simp only [Act.put, List.setIfInBounds_toArray, List.set_cons_zero, List.set_cons_succ, i64_w, i32_w]
    rfl
  refine one_ (i := 0) (N := some 12) #[true, true, false, false, true, false, false] rfl rfl (by kernel_rfl) (by decide) (fun K hK => ?_)
  refine goes_ Tryz.func55 (by kernel_rfl) rfl #[.pointer (some ⟨w.heap.size, 0, none⟩)] (by rfl) rfl rfl (by simp only [List.map_toArray, List.map_cons, List.map_nil]; rfl) ?_
  with_reducible refine (fields_any _ _).mono ?_
  rintro e w5 ⟨rfl, hcb, hsz, hb⟩
  refine ⟨_, rfl, ?_⟩
  have hx5 := blk_below (w := W3.drew) hX hb
  have hr5 := blk_below (w := W3.drew) hR hb
  have hB5 := hB.drew.trans (hb.mono hB.size)
  have q0' := (hb.cell (p := ⟨w.heap.size + 1, 0, none⟩) hl1).trans q0
  have q1' := (hb.cell (p := ⟨w.heap.size + 1, 1, none⟩) hl1).trans q1
  have x0 := blk_cell hx5 4
  have x1 := blk_cell hx5 5
  have z0 := blk_frozen hx5 4
  have z1 := blk_frozen hx5 5
  simp only [List.getElem?_toArray, List.getElem?_cons_succ, List.getElem?_cons_zero] at x0 x1
  clear hb hsz
  refine hK.out _ _ ⟨q0', q1'⟩ (fun hHeld => ?_)
  clear hK K
  refine norm_ (a' := ?_) ?_ ?_
  rotate_left
  · show Act.put _ (some 12) _ = _
    simp only [Act.put, List.setIfInBounds_toArray, List.set_cons_zero, List.set_cons_succ, i64_w, i32_w]
    rfl
  refine take_ (i := 2) (N := some 14) (v := ?_) (a' := ?_) #[true, true, true, false, true, false, false] rfl rfl (by kernel_rfl) (fun _ _ _ h => h) (Or.inl ⟨by rfl, ?_⟩) hHeld ?_ ?_
  rotate_left
  · rintro w' ⟨s0, s1⟩
    go_simp
    with_reducible rfl
  rotate_left
  · simp only [Act.put, List.setIfInBounds_toArray, List.set_cons_zero, List.set_cons_succ, i64_w, i32_w]
    rfl
  refine one_ (i := 3) (N := some 15) #[true, true, true, true, true, false, false] rfl rfl (by kernel_rfl) (by decide) (fun K hK => ?_)
  refine call_ (91) #[.pointer (some ⟨W3.drew.heap.size, 0, none⟩)] (by rfl) rfl ?_ ?_
  · have he := eg_sf3
    go_simp
  with_reducible refine (sfl2 ⟨W3.drew.heap.size, 0, none⟩ w.heap.size _ hcb).mono ?_
  rintro e w6 ⟨rfl, rfl⟩
  refine ⟨_, rfl, ?_⟩
  refine hK.out _ _ ⟨q0', q1'⟩ (fun hHeld => ?_)
  clear hK K
  refine norm_ (a' := ?_) ?_ ?_
  rotate_left
  · show Act.put _ (some 15) _ = _
    simp only [Act.put, List.setIfInBounds_toArray, List.set_cons_zero, List.set_cons_succ, i64_w, i32_w]
    rfl
  refine pure_ (i := 5) (N := some 17) (v := ?_) (a' := ?_) #[true, true, true, true, true, true, false] rfl rfl (by kernel_rfl) (fun _ _ _ h => h) (Or.inl ⟨by rfl, ?_⟩) ?_ ?_
  rotate_left
  · intro w'
    go_simp
    with_reducible rfl
  rotate_left
  · simp only [Act.put, List.setIfInBounds_toArray, List.set_cons_zero, List.set_cons_succ, i64_w, i32_w]
    rfl
  refine last_ (i := 6) (N := none) #[true, true, true, true, true, true, true] rfl rfl (by kernel_rfl) (by decide) (fun K hK => ?_)
  refine skip_ (w1 := ?_) (by rfl) rfl ?_ ?_
  rotate_left
  · go_simp
    rfl
  refine hK.out _ _ ?_
  clear hK K
  refine done_ (by kernel_rfl) ?_

  have hK : KX w.heap.size w5 ((w5.setCell ⟨w.heap.size, 4, none⟩ (.int .u64 b)).setCell ⟨w.heap.size, 5, none⟩ (.bool s)) := (KX.set w5 4 _).trans (KX.set _ 5 _)
  have hx7 := SpB.put2 (x := x) hx5 b s
  have hr7 := hK.blk hr5 (by omega)
  have hB7 := hB5.trans (hK.below (Nat.le_refl _) hB5.size)
  generalize (w5.setCell ⟨w.heap.size, 4, none⟩ (.int .u64 b)).setCell ⟨w.heap.size, 5, none⟩ (.bool s) = w7 at *
  clear hx5 hr5 hB5 x0 x1 z0 z1 q0 q1 q0' q1' hcb hHeld hK ix
  obtain ⟨c0, c1, c2, c3, c4, c5, c6, c7, c8, c9⟩ := SpB.spIn (x := { x with d := ⟨b, s⟩ }) hx7
  obtain ⟨d0, d1, d2, d3, d4, d5, d6, d7, d8, d9⟩ := SpB.spIn hr7
  obtain ⟨z0, z1, z2, z3, z4, z5, z6, z7, z8, z9⟩ := SpB.fz hr7
  go_wp2
  have hB9 : Below w.heap.size w ((((((((((w7.setCell ⟨(w.heap.size + 1 + 1), 0, none⟩ (.int .u64 (x.m.b))).setCell ⟨(w.heap.size + 1 + 1), 1, none⟩ (.bool x.m.s)).setCell ⟨(w.heap.size + 1 + 1), 2, none⟩ (.int .u64 (x.h.b))).setCell ⟨(w.heap.size + 1 + 1), 3, none⟩ (.bool x.h.s)).setCell ⟨(w.heap.size + 1 + 1), 4, none⟩ (.int .u64 (b))).setCell ⟨(w.heap.size + 1 + 1), 5, none⟩ (.bool s)).setCell ⟨(w.heap.size + 1 + 1), 6, none⟩ (.int .u64 (x.n.b))).setCell ⟨(w.heap.size + 1 + 1), 7, none⟩ (.bool x.n.s)).setCell ⟨(w.heap.size + 1 + 1), 8, none⟩ (.int .u64 (x.w.b))).setCell ⟨(w.heap.size + 1 + 1), 9, none⟩ (.bool x.w.s)) := ((((((((((hB7.setCell (p := ⟨(w.heap.size + 1 + 1), 0, none⟩) (by dsimp only; omega) _).setCell (p := ⟨(w.heap.size + 1 + 1), 1, none⟩) (by dsimp only; omega) _).setCell (p := ⟨(w.heap.size + 1 + 1), 2, none⟩) (by dsimp only; omega) _).setCell (p := ⟨(w.heap.size + 1 + 1), 3, none⟩) (by dsimp only; omega) _).setCell (p := ⟨(w.heap.size + 1 + 1), 4, none⟩) (by dsimp only; omega) _).setCell (p := ⟨(w.heap.size + 1 + 1), 5, none⟩) (by dsimp only; omega) _).setCell (p := ⟨(w.heap.size + 1 + 1), 6, none⟩) (by dsimp only; omega) _).setCell (p := ⟨(w.heap.size + 1 + 1), 7, none⟩) (by dsimp only; omega) _).setCell (p := ⟨(w.heap.size + 1 + 1), 8, none⟩) (by dsimp only; omega) _).setCell (p := ⟨(w.heap.size + 1 + 1), 9, none⟩) (by dsimp only; omega) _)
  have hr9 : SpB ((((((((((w7.setCell ⟨(w.heap.size + 1 + 1), 0, none⟩ (.int .u64 (x.m.b))).setCell ⟨(w.heap.size + 1 + 1), 1, none⟩ (.bool x.m.s)).setCell ⟨(w.heap.size + 1 + 1), 2, none⟩ (.int .u64 (x.h.b))).setCell ⟨(w.heap.size + 1 + 1), 3, none⟩ (.bool x.h.s)).setCell ⟨(w.heap.size + 1 + 1), 4, none⟩ (.int .u64 (b))).setCell ⟨(w.heap.size + 1 + 1), 5, none⟩ (.bool s)).setCell ⟨(w.heap.size + 1 + 1), 6, none⟩ (.int .u64 (x.n.b))).setCell ⟨(w.heap.size + 1 + 1), 7, none⟩ (.bool x.n.s)).setCell ⟨(w.heap.size + 1 + 1), 8, none⟩ (.int .u64 (x.w.b))).setCell ⟨(w.heap.size + 1 + 1), 9, none⟩ (.bool x.w.s)) (w.heap.size + 1 + 1) { x with d := ⟨b, s⟩ } := (SpB.put4 (SpB.put3 (SpB.put2 (SpB.put1 (SpB.put0 hr7 (x.m.b) (x.m.s)) (x.h.b) (x.h.s)) (b) (s)) (x.n.b) (x.n.s)) (x.w.b) (x.w.s))
  clear c0 c1 c2 c3 c4 c5 c6 c7 c8 c9 d0 d1 d2 d3 d4 d5 d6 d7 d8 d9 z0 z1 z2 z3 z4 z5 z6 z7 z8 z9 hr7 hB7
  generalize ((((((((((w7.setCell ⟨(w.heap.size + 1 + 1), 0, none⟩ (.int .u64 (x.m.b))).setCell ⟨(w.heap.size + 1 + 1), 1, none⟩ (.bool x.m.s)).setCell ⟨(w.heap.size + 1 + 1), 2, none⟩ (.int .u64 (x.h.b))).setCell ⟨(w.heap.size + 1 + 1), 3, none⟩ (.bool x.h.s)).setCell ⟨(w.heap.size + 1 + 1), 4, none⟩ (.int .u64 (b))).setCell ⟨(w.heap.size + 1 + 1), 5, none⟩ (.bool s)).setCell ⟨(w.heap.size + 1 + 1), 6, none⟩ (.int .u64 (x.n.b))).setCell ⟨(w.heap.size + 1 + 1), 7, none⟩ (.bool x.n.s)).setCell ⟨(w.heap.size + 1 + 1), 8, none⟩ (.int .u64 (x.w.b))).setCell ⟨(w.heap.size + 1 + 1), 9, none⟩ (.bool x.w.s)) = w9 at *
  obtain ⟨c0, c1, c2, c3, c4, c5, c6, c7, c8, c9⟩ := SpB.spIn (x := { x with d := ⟨b, s⟩ }) hr9
  refine bodyPost_ret (v := .tuple #[.agg #[.int .u64 (x.m.b), .bool (x.m.s), .int .u64 (x.h.b), .bool (x.h.s), .int .u64 (b), .bool (s), .int .u64 (x.n.b), .bool (x.n.s), .int .u64 (x.w.b), .bool (x.w.s)], .int .i64 0]) (by simp [results, Tryz.results24, go_sem, c0, c1, c2, c3, c4, c5, c6, c7, c8, c9]) rfl ⟨rfl, hB9⟩

set_option maxRecDepth 100000 in
set_option maxHeartbeats 2000000 in
theorem with4 (x : Sp) (b : Int) (s : Bool) (w : World) :
    Calls Tryz.prog 24 #[.agg #[.int .u64 x.m.b, .bool x.m.s, .int .u64 x.h.b, .bool x.h.s, .int .u64 x.d.b, .bool x.d.s, .int .u64 x.n.b, .bool x.n.s, .int .u64 x.w.b, .bool x.w.s], .int .i64 4, .agg #[.int .u64 b, .bool s]] w fun e w' => e = .returned (.tuple #[.agg #[.int .u64 (x.m.b), .bool (x.m.s), .int .u64 (x.h.b), .bool (x.h.s), .int .u64 (x.d.b), .bool (x.d.s), .int .u64 (x.n.b), .bool (x.n.s), .int .u64 (b), .bool (s)], .int .i64 0]) ∧ Below w.heap.size w w' := by
  go_enter Tryz.func24, Tryz.ntmps24
  go_wp2_with fail
  refine (known2_q 4 _ (by omega)).mono ?_
  rintro e w1 ⟨rfl, rfl⟩
  have ix := sfi4
  go_wp2
  generalize hW : ((w.alloc (.cells #[.int .u64 x.m.b, .bool x.m.s, .int .u64 x.h.b, .bool x.h.s, .int .u64 x.d.b, .bool x.d.s, .int .u64 x.n.b, .bool x.n.s, .int .u64 x.w.b, .bool x.w.s] 26)).alloc (.cells #[.int .u64 b, .bool s] 24)).alloc (.cells #[.int .u64 0, .bool false, .int .u64 0, .bool false, .int .u64 0, .bool false, .int .u64 0, .bool false, .int .u64 0, .bool false] 26) = W3
  have hX : SpB W3 w.heap.size x := hW ▸ blk_alloc (blk_alloc (blk_new _ _) _) _
  have hF : W3.heap[w.heap.size + 1]? = some (.cells #[.int .u64 b, .bool s] 24 (0, 0)) := hW ▸ blk_alloc (blk_new2' _ _ _ (by simp)) _
  have hR : SpB W3 (w.heap.size + 1 + 1) sp0 := hW ▸ blk_new2' _ _ _ (by simp)
  have hB : Below w.heap.size w W3 := hW ▸ (((Below.refl _ _).alloc (Nat.le_refl _) _).alloc (by simp) _).alloc (by simp; omega) _
  have q0 : W3.drew.cell? ⟨w.heap.size + 1, 0, none⟩ = some (.int .u64 b) := blk_cell hF 0
  have q1 : W3.drew.cell? ⟨w.heap.size + 1, 1, none⟩ = some (.bool s) := blk_cell hF 1
  have hl1 : w.heap.size + 1 < W3.drew.heap.size := blk_lt hF
  clear hW
  refine start_ (n := 7) (S := fun w' => w'.cell? ⟨w.heap.size + 1, 0, none⟩ = some (.int .u64 b) ∧ w'.cell? ⟨w.heap.size + 1, 1, none⟩ = some (.bool s)) (ds := [6]) #[false, false, false, false, false, false, false] (by kernel_rfl) rfl rfl ⟨q0, q1⟩ (fun hHeld => ?_)
  refine pure_ (i := 1) (N := some 13) (v := ?_) (a' := ?_) #[false, true, false, false, false, false, false] rfl rfl (by kernel_rfl) (fun _ _ _ h => h) (Or.inl ⟨by rfl, ?_⟩) ?_ ?_
  rotate_left
  · intro w'
    go_simp
    with_reducible rfl
  rotate_left
  · simp only [Act.put, List.setIfInBounds_toArray, List.set_cons_zero, List.set_cons_succ, i64_w, i32_w]
    rfl
  refine take_ (i := 4) (N := some 16) (v := ?_) (a' := ?_) #[false, true, false, false, true, false, false] rfl rfl (by kernel_rfl) (fun _ _ _ h => h) (Or.inl ⟨by rfl, ?_⟩) hHeld ?_ ?_
  rotate_left
  · rintro w' ⟨s0, s1⟩
    go_simp
    with_reducible rfl
  rotate_left
  · simp only [Act.put, List.setIfInBounds_toArray, List.set_cons_zero, List.set_cons_succ, i64_w, i32_w]
    rfl
  refine one_ (i := 0) (N := some 12) #[true, true, false, false, true, false, false] rfl rfl (by kernel_rfl) (by decide) (fun K hK => ?_)
  refine goes_ Tryz.func55 (by kernel_rfl) rfl #[.pointer (some ⟨w.heap.size, 0, none⟩)] (by rfl) rfl rfl (by simp only [List.map_toArray, List.map_cons, List.map_nil]; rfl) ?_
  with_reducible refine (fields_any _ _).mono ?_
  rintro e w5 ⟨rfl, hcb, hsz, hb⟩
  refine ⟨_, rfl, ?_⟩
  have hx5 := blk_below (w := W3.drew) hX hb
  have hr5 := blk_below (w := W3.drew) hR hb
  have hB5 := hB.drew.trans (hb.mono hB.size)
  have q0' := (hb.cell (p := ⟨w.heap.size + 1, 0, none⟩) hl1).trans q0
  have q1' := (hb.cell (p := ⟨w.heap.size + 1, 1, none⟩) hl1).trans q1
  have x0 := blk_cell hx5 8
  have x1 := blk_cell hx5 9
  have z0 := blk_frozen hx5 8
  have z1 := blk_frozen hx5 9
  simp only [List.getElem?_toArray, List.getElem?_cons_succ, List.getElem?_cons_zero] at x0 x1
  clear hb hsz
  refine hK.out _ _ ⟨q0', q1'⟩ (fun hHeld => ?_)
  clear hK K
  refine norm_ (a' := ?_) ?_ ?_
  rotate_left
  · show Act.put _ (some 12) _ = _
    simp only [Act.put, List.setIfInBounds_toArray, List.set_cons_zero, List.set_cons_succ, i64_w, i32_w]
    rfl
  refine take_ (i := 2) (N := some 14) (v := ?_) (a' := ?_) #[true, true, true, false, true, false, false] rfl rfl (by kernel_rfl) (fun _ _ _ h => h) (Or.inl ⟨by rfl, ?_⟩) hHeld ?_ ?_
  rotate_left
  · rintro w' ⟨s0, s1⟩
    go_simp
    with_reducible rfl
  rotate_left
  · simp only [Act.put, List.setIfInBounds_toArray, List.set_cons_zero, List.set_cons_succ, i64_w, i32_w]
    rfl
  refine one_ (i := 3) (N := some 15) #[true, true, true, true, true, false, false] rfl rfl (by kernel_rfl) (by decide) (fun K hK => ?_)
  refine call_ (93) #[.pointer (some ⟨W3.drew.heap.size, 0, none⟩)] (by rfl) rfl ?_ ?_
  · have he := eg_sf5
    go_simp
  with_reducible refine (sfl4 ⟨W3.drew.heap.size, 0, none⟩ w.heap.size _ hcb).mono ?_
  rintro e w6 ⟨rfl, rfl⟩
  refine ⟨_, rfl, ?_⟩
  refine hK.out _ _ ⟨q0', q1'⟩ (fun hHeld => ?_)
  clear hK K
  refine norm_ (a' := ?_) ?_ ?_
  rotate_left
  · show Act.put _ (some 15) _ = _
    simp only [Act.put, List.setIfInBounds_toArray, List.set_cons_zero, List.set_cons_succ, i64_w, i32_w]
    rfl
  refine pure_ (i := 5) (N := some 17) (v := ?_) (a' := ?_) #[true, true, true, true, true, true, false] rfl rfl (by kernel_rfl) (fun _ _ _ h => h) (Or.inl ⟨by rfl, ?_⟩) ?_ ?_
  rotate_left
  · intro w'
    go_simp
    with_reducible rfl
  rotate_left
  · simp only [Act.put, List.setIfInBounds_toArray, List.set_cons_zero, List.set_cons_succ, i64_w, i32_w]
    rfl
  refine last_ (i := 6) (N := none) #[true, true, true, true, true, true, true] rfl rfl (by kernel_rfl) (by decide) (fun K hK => ?_)
  refine skip_ (w1 := ?_) (by rfl) rfl ?_ ?_
  rotate_left
  · go_simp
    rfl
  refine hK.out _ _ ?_
  clear hK K
  refine done_ (by kernel_rfl) ?_

  have hK : KX w.heap.size w5 ((w5.setCell ⟨w.heap.size, 8, none⟩ (.int .u64 b)).setCell ⟨w.heap.size, 9, none⟩ (.bool s)) := (KX.set w5 8 _).trans (KX.set _ 9 _)
  have hx7 := SpB.put4 (x := x) hx5 b s
  have hr7 := hK.blk hr5 (by omega)
  have hB7 := hB5.trans (hK.below (Nat.le_refl _) hB5.size)
  generalize (w5.setCell ⟨w.heap.size, 8, none⟩ (.int .u64 b)).setCell ⟨w.heap.size, 9, none⟩ (.bool s) = w7 at *
  clear hx5 hr5 hB5 x0 x1 z0 z1 q0 q1 q0' q1' hcb hHeld hK ix
  obtain ⟨c0, c1, c2, c3, c4, c5, c6, c7, c8, c9⟩ := SpB.spIn (x := { x with w := ⟨b, s⟩ }) hx7
  obtain ⟨d0, d1, d2, d3, d4, d5, d6, d7, d8, d9⟩ := SpB.spIn hr7
  obtain ⟨z0, z1, z2, z3, z4, z5, z6, z7, z8, z9⟩ := SpB.fz hr7
  go_wp2
  have hB9 : Below w.heap.size w ((((((((((w7.setCell ⟨(w.heap.size + 1 + 1), 0, none⟩ (.int .u64 (x.m.b))).setCell ⟨(w.heap.size + 1 + 1), 1, none⟩ (.bool x.m.s)).setCell ⟨(w.heap.size + 1 + 1), 2, none⟩ (.int .u64 (x.h.b))).setCell ⟨(w.heap.size + 1 + 1), 3, none⟩ (.bool x.h.s)).setCell ⟨(w.heap.size + 1 + 1), 4, none⟩ (.int .u64 (x.d.b))).setCell ⟨(w.heap.size + 1 + 1), 5, none⟩ (.bool x.d.s)).setCell ⟨(w.heap.size + 1 + 1), 6, none⟩ (.int .u64 (x.n.b))).setCell ⟨(w.heap.size + 1 + 1), 7, none⟩ (.bool x.n.s)).setCell ⟨(w.heap.size + 1 + 1), 8, none⟩ (.int .u64 (b))).setCell ⟨(w.heap.size + 1 + 1), 9, none⟩ (.bool s)) := ((((((((((hB7.setCell (p := ⟨(w.heap.size + 1 + 1), 0, none⟩) (by dsimp only; omega) _).setCell (p := ⟨(w.heap.size + 1 + 1), 1, none⟩) (by dsimp only; omega) _).setCell (p := ⟨(w.heap.size + 1 + 1), 2, none⟩) (by dsimp only; omega) _).setCell (p := ⟨(w.heap.size + 1 + 1), 3, none⟩) (by dsimp only; omega) _).setCell (p := ⟨(w.heap.size + 1 + 1), 4, none⟩) (by dsimp only; omega) _).setCell (p := ⟨(w.heap.size + 1 + 1), 5, none⟩) (by dsimp only; omega) _).setCell (p := ⟨(w.heap.size + 1 + 1), 6, none⟩) (by dsimp only; omega) _).setCell (p := ⟨(w.heap.size + 1 + 1), 7, none⟩) (by dsimp only; omega) _).setCell (p := ⟨(w.heap.size + 1 + 1), 8, none⟩) (by dsimp only; omega) _).setCell (p := ⟨(w.heap.size + 1 + 1), 9, none⟩) (by dsimp only; omega) _)
  have hr9 : SpB ((((((((((w7.setCell ⟨(w.heap.size + 1 + 1), 0, none⟩ (.int .u64 (x.m.b))).setCell ⟨(w.heap.size + 1 + 1), 1, none⟩ (.bool x.m.s)).setCell ⟨(w.heap.size + 1 + 1), 2, none⟩ (.int .u64 (x.h.b))).setCell ⟨(w.heap.size + 1 + 1), 3, none⟩ (.bool x.h.s)).setCell ⟨(w.heap.size + 1 + 1), 4, none⟩ (.int .u64 (x.d.b))).setCell ⟨(w.heap.size + 1 + 1), 5, none⟩ (.bool x.d.s)).setCell ⟨(w.heap.size + 1 + 1), 6, none⟩ (.int .u64 (x.n.b))).setCell ⟨(w.heap.size + 1 + 1), 7, none⟩ (.bool x.n.s)).setCell ⟨(w.heap.size + 1 + 1), 8, none⟩ (.int .u64 (b))).setCell ⟨(w.heap.size + 1 + 1), 9, none⟩ (.bool s)) (w.heap.size + 1 + 1) { x with w := ⟨b, s⟩ } := (SpB.put4 (SpB.put3 (SpB.put2 (SpB.put1 (SpB.put0 hr7 (x.m.b) (x.m.s)) (x.h.b) (x.h.s)) (x.d.b) (x.d.s)) (x.n.b) (x.n.s)) (b) (s))
  clear c0 c1 c2 c3 c4 c5 c6 c7 c8 c9 d0 d1 d2 d3 d4 d5 d6 d7 d8 d9 z0 z1 z2 z3 z4 z5 z6 z7 z8 z9 hr7 hB7
  generalize ((((((((((w7.setCell ⟨(w.heap.size + 1 + 1), 0, none⟩ (.int .u64 (x.m.b))).setCell ⟨(w.heap.size + 1 + 1), 1, none⟩ (.bool x.m.s)).setCell ⟨(w.heap.size + 1 + 1), 2, none⟩ (.int .u64 (x.h.b))).setCell ⟨(w.heap.size + 1 + 1), 3, none⟩ (.bool x.h.s)).setCell ⟨(w.heap.size + 1 + 1), 4, none⟩ (.int .u64 (x.d.b))).setCell ⟨(w.heap.size + 1 + 1), 5, none⟩ (.bool x.d.s)).setCell ⟨(w.heap.size + 1 + 1), 6, none⟩ (.int .u64 (x.n.b))).setCell ⟨(w.heap.size + 1 + 1), 7, none⟩ (.bool x.n.s)).setCell ⟨(w.heap.size + 1 + 1), 8, none⟩ (.int .u64 (b))).setCell ⟨(w.heap.size + 1 + 1), 9, none⟩ (.bool s)) = w9 at *
  obtain ⟨c0, c1, c2, c3, c4, c5, c6, c7, c8, c9⟩ := SpB.spIn (x := { x with w := ⟨b, s⟩ }) hr9
  refine bodyPost_ret (v := .tuple #[.agg #[.int .u64 (x.m.b), .bool (x.m.s), .int .u64 (x.h.b), .bool (x.h.s), .int .u64 (x.d.b), .bool (x.d.s), .int .u64 (x.n.b), .bool (x.n.s), .int .u64 (b), .bool (s)], .int .i64 0]) (by simp [results, Tryz.results24, go_sem, c0, c1, c2, c3, c4, c5, c6, c7, c8, c9]) rfl ⟨rfl, hB9⟩

end Go.Proofs.YtkdejfedigiohaaGreatDoor
