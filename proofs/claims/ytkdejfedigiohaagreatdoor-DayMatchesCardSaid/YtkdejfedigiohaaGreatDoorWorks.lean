/- complinelaw21.works: the fixed facts that each day law begins with. -/
import Derived.Test.YtkdejfedigiohaaGreatDoorGround
namespace Go.Proofs.YtkdejfedigiohaaGreatDoor
open Go.RowKit Go.Proofs.YtkdejfedigiohaaGreatDoorW.PrintWords Go.Proofs.YtkdejfedigiohaaGreatDoorW.PrintLast Go.Proofs.YtkdejfedigiohaaGreatDoorW.PrintMore
set_option linter.unusedVariables false
set_option linter.unusedSimpArgs false

open Go.Proofs.YtkdejfedigiohaaGreatDoor.PR

theorem txA_ok : ∀ i (h : i < txA.size), txA[i].toNat < 128 ∧ knownI (txA[i].toNat : Int) = true := by decide +kernel
theorem txB_ok : ∀ i (h : i < txB.size), txB[i].toNat < 128 ∧ knownI (txB[i].toNat : Int) = true := by decide +kernel
theorem txC_ok : ∀ i (h : i < txC.size), txC[i].toNat < 128 ∧ knownI (txC[i].toNat : Int) = true := by decide +kernel
theorem pA (w : World) (hE : Env w) (h8 : 8 ≤ w.heap.size) : Calls Tryz.prog 34 #[.string ⟨#[48, 32, 49, 50, 32, 49, 51, 32, 42, 32, 53]⟩] w fun e w' => e = .returned (.tuple #[.agg #[.int .u64 gA.m.b, .bool gA.m.s, .int .u64 gA.h.b, .bool gA.h.s, .int .u64 gA.d.b, .bool gA.d.s, .int .u64 gA.n.b, .bool gA.n.s, .int .u64 gA.w.b, .bool gA.w.s], .int .i64 0, .int .i64 0]) ∧ Below w.heap.size w w' := by
  have h := specParse_ok txA w tx0 tx12 tx13 ⟨#[42]⟩ tx5 false false false true false _ _ _ _ _ hE h8 (by decide) txA_ok wA pf0 pf12 pf13 (pf_star 3 (by decide) (by decide)) pf5
  rw [b0, b12, b13, bs3, b5] at h
  exact h
theorem pB (w : World) (hE : Env w) (h8 : 8 ≤ w.heap.size) : Calls Tryz.prog 34 #[.string ⟨#[48, 32, 49, 50, 32, 49, 51, 32, 42, 32, 42]⟩] w fun e w' => e = .returned (.tuple #[.agg #[.int .u64 gB.m.b, .bool gB.m.s, .int .u64 gB.h.b, .bool gB.h.s, .int .u64 gB.d.b, .bool gB.d.s, .int .u64 gB.n.b, .bool gB.n.s, .int .u64 gB.w.b, .bool gB.w.s], .int .i64 0, .int .i64 0]) ∧ Below w.heap.size w w' := by
  have h := specParse_ok txB w tx0 tx12 tx13 ⟨#[42]⟩ ⟨#[42]⟩ false false false true true _ _ _ _ _ hE h8 (by decide) txB_ok wB pf0 pf12 pf13 (pf_star 3 (by decide) (by decide)) (pf_star 4 (by decide) (by decide))
  rw [b0, b12, b13, bs3, bs4] at h
  exact h
theorem pC (w : World) (hE : Env w) (h8 : 8 ≤ w.heap.size) : Calls Tryz.prog 34 #[.string ⟨#[48, 32, 49, 50, 32, 42, 32, 42, 32, 53]⟩] w fun e w' => e = .returned (.tuple #[.agg #[.int .u64 gC.m.b, .bool gC.m.s, .int .u64 gC.h.b, .bool gC.h.s, .int .u64 gC.d.b, .bool gC.d.s, .int .u64 gC.n.b, .bool gC.n.s, .int .u64 gC.w.b, .bool gC.w.s], .int .i64 0, .int .i64 0]) ∧ Below w.heap.size w w' := by
  have h := specParse_ok txC w tx0 tx12 ⟨#[42]⟩ ⟨#[42]⟩ tx5 false false true true false _ _ _ _ _ hE h8 (by decide) txC_ok wC pf0 pf12 (pf_star 2 (by decide) (by decide)) (pf_star 3 (by decide) (by decide)) pf5
  rw [b0, b12, bs2, bs3, b5] at h
  exact h
theorem mA (w : World) : Calls Tryz.prog 20 #[.agg #[.int .u64 gA.m.b, .bool gA.m.s, .int .u64 gA.h.b, .bool gA.h.s, .int .u64 gA.d.b, .bool gA.d.s, .int .u64 gA.n.b, .bool gA.n.s, .int .u64 gA.w.b, .bool gA.w.s], .int .i64 2026, .int .i64 11] w fun e w' => e = .returned (.tuple #[.int .u32 135274560, .int .i64 0]) ∧ Below w.heap.size w w' := by
  have h := mask_ok gA 2026 11 w gA_ok gA_chk ⟨by decide, by decide, by decide, by decide⟩
  rw [gA_mask] at h
  exact h
theorem mB (w : World) : Calls Tryz.prog 20 #[.agg #[.int .u64 gB.m.b, .bool gB.m.s, .int .u64 gB.h.b, .bool gB.h.s, .int .u64 gB.d.b, .bool gB.d.s, .int .u64 gB.n.b, .bool gB.n.s, .int .u64 gB.w.b, .bool gB.w.s], .int .i64 2026, .int .i64 11] w fun e w' => e = .returned (.tuple #[.int .u32 8192, .int .i64 0]) ∧ Below w.heap.size w w' := by
  have h := mask_ok gB 2026 11 w gB_ok gB_chk ⟨by decide, by decide, by decide, by decide⟩
  rw [gB_mask] at h
  exact h
theorem mC (w : World) : Calls Tryz.prog 20 #[.agg #[.int .u64 gC.m.b, .bool gC.m.s, .int .u64 gC.h.b, .bool gC.h.s, .int .u64 gC.d.b, .bool gC.d.s, .int .u64 gC.n.b, .bool gC.n.s, .int .u64 gC.w.b, .bool gC.w.s], .int .i64 2026, .int .i64 11] w fun e w' => e = .returned (.tuple #[.int .u32 135274560, .int .i64 0]) ∧ Below w.heap.size w w' := by
  have h := mask_ok gC 2026 11 w gC_ok gC_chk ⟨by decide, by decide, by decide, by decide⟩
  rw [gC_mask] at h
  exact h
theorem aA1 (w : World) : Calls Tryz.prog 15 #[.agg #[.int .u64 gA.m.b, .bool gA.m.s, .int .u64 gA.h.b, .bool gA.h.s, .int .u64 gA.d.b, .bool gA.d.s, .int .u64 gA.n.b, .bool gA.n.s, .int .u64 gA.w.b, .bool gA.w.s], .int .i64 29913840] w fun e w' => e = .returned (.tuple #[.bool false, .int .i64 0]) ∧ Below w.heap.size w w' := by
  refine (match_ok gA 29913840 w gA_ok gA_chk (by decide) (by decide)).mono ?_
  rintro e w' ⟨⟨y, m, d, hD, rfl⟩, hb⟩
  obtain ⟨rfl, rfl, rfl⟩ := IsDate.inj hD gA_date1
  exact ⟨congrArg (fun b => Ending.returned (.tuple #[.bool b, .int .i64 0])) gA_no, hb⟩
theorem aA2 (w : World) : Calls Tryz.prog 15 #[.agg #[.int .u64 gA.m.b, .bool gA.m.s, .int .u64 gA.h.b, .bool gA.h.s, .int .u64 gA.d.b, .bool gA.d.s, .int .u64 gA.n.b, .bool gA.n.s, .int .u64 gA.w.b, .bool gA.w.s], .int .i64 29909520] w fun e w' => e = .returned (.tuple #[.bool true, .int .i64 0]) ∧ Below w.heap.size w w' := by
  refine (match_ok gA 29909520 w gA_ok gA_chk (by decide) (by decide)).mono ?_
  rintro e w' ⟨⟨y, m, d, hD, rfl⟩, hb⟩
  obtain ⟨rfl, rfl, rfl⟩ := IsDate.inj hD gA_date2
  exact ⟨congrArg (fun b => Ending.returned (.tuple #[.bool b, .int .i64 0])) gA_yes, hb⟩
theorem nA (w : World) : Calls Tryz.prog 17 #[.agg #[.int .u64 gA.m.b, .bool gA.m.s, .int .u64 gA.h.b, .bool gA.h.s, .int .u64 gA.d.b, .bool gA.d.s, .int .u64 gA.n.b, .bool gA.n.s, .int .u64 gA.w.b, .bool gA.w.s]] w fun e w' => e = .returned (.tuple #[.int .i64 1, .int .i64 0]) ∧ Below w.heap.size w w' := by
  have h := minutes_ok gA w gA_ok gA_chk
  rw [gA_min] at h
  exact h

set_option maxRecDepth 100000 in
set_option maxHeartbeats 2000000 in
theorem works_ok (w : World) (hE : Env w) (h8 : 8 ≤ w.heap.size) :
    Calls Tryz.prog 14 #[] w fun e w' => e = .returned (.bool true) ∧ Below w.heap.size w w' := by
  go_enter Tryz.func14, Tryz.ntmps14
  go_wp2_with fail
  refine (pA w hE h8).mono ?_
  rintro e w1 ⟨rfl, hb1⟩
  go_wp2_with fail
  generalize hW : w1.alloc (.cells #[.int .u64 gA.m.b, .bool gA.m.s, .int .u64 gA.h.b, .bool gA.h.s, .int .u64 gA.d.b, .bool gA.d.s, .int .u64 gA.n.b, .bool gA.n.s, .int .u64 gA.w.b, .bool gA.w.s] 26) = w2
  have hA2 : SpB w2 w1.heap.size gA := hW ▸ blk_new _ _
  have hB2 : Below w.heap.size w w2 := hW ▸ hb1.alloc hb1.size _
  clear hW
  refine (pB w2 (hE.below hB2) (Nat.le_trans h8 hB2.size)).mono ?_
  rintro e w3 ⟨rfl, hb3⟩
  have hA3 := blk_below hA2 hb3
  have hB3 := hB2.trans (hb3.mono hB2.size)
  clear hA2 hB2 hb3
  go_wp2_with fail
  generalize hW : w3.alloc (.cells #[.int .u64 gB.m.b, .bool gB.m.s, .int .u64 gB.h.b, .bool gB.h.s, .int .u64 gB.d.b, .bool gB.d.s, .int .u64 gB.n.b, .bool gB.n.s, .int .u64 gB.w.b, .bool gB.w.s] 26) = w4
  have hA4 : SpB w4 w1.heap.size gA := hW ▸ blk_alloc hA3 _
  have hC4 : SpB w4 w3.heap.size gB := hW ▸ blk_new _ _
  have hB4 : Below w.heap.size w w4 := hW ▸ hB3.alloc hB3.size _
  clear hW hA3 hB3
  refine (pC w4 (hE.below hB4) (Nat.le_trans h8 hB4.size)).mono ?_
  rintro e w5 ⟨rfl, hb5⟩
  have hA5 := blk_below hA4 hb5
  have hC5 := blk_below hC4 hb5
  have hB5 := hB4.trans (hb5.mono hB4.size)
  clear hA4 hC4 hB4 hb5
  have hA6 : SpB (w5.alloc (.cells #[.int .u64 gC.m.b, .bool gC.m.s, .int .u64 gC.h.b, .bool gC.h.s, .int .u64 gC.d.b, .bool gC.d.s, .int .u64 gC.n.b, .bool gC.n.s, .int .u64 gC.w.b, .bool gC.w.s] 26)) w1.heap.size gA := blk_alloc hA5 _
  have hC6 : SpB (w5.alloc (.cells #[.int .u64 gC.m.b, .bool gC.m.s, .int .u64 gC.h.b, .bool gC.h.s, .int .u64 gC.d.b, .bool gC.d.s, .int .u64 gC.n.b, .bool gC.n.s, .int .u64 gC.w.b, .bool gC.w.s] 26)) w3.heap.size gB := blk_alloc hC5 _
  have hD6 : SpB (w5.alloc (.cells #[.int .u64 gC.m.b, .bool gC.m.s, .int .u64 gC.h.b, .bool gC.h.s, .int .u64 gC.d.b, .bool gC.d.s, .int .u64 gC.n.b, .bool gC.n.s, .int .u64 gC.w.b, .bool gC.w.s] 26)) w5.heap.size gC := blk_new _ _
  have hB6 : Below w.heap.size w (w5.alloc (.cells #[.int .u64 gC.m.b, .bool gC.m.s, .int .u64 gC.h.b, .bool gC.h.s, .int .u64 gC.d.b, .bool gC.d.s, .int .u64 gC.n.b, .bool gC.n.s, .int .u64 gC.w.b, .bool gC.w.s] 26)) := hB5.alloc hB5.size _
  clear hA5 hC5 hB5
  obtain ⟨c0, c1, c2, c3, c4, c5, c6, c7, c8, c9⟩ := SpB.spIn (x := gA) hA6
  go_wp2_with fail
  generalize w5.alloc (.cells #[.int .u64 gC.m.b, .bool gC.m.s, .int .u64 gC.h.b, .bool gC.h.s, .int .u64 gC.d.b, .bool gC.d.s, .int .u64 gC.n.b, .bool gC.n.s, .int .u64 gC.w.b, .bool gC.w.s] 26) = v6 at *
  refine (mA _).mono ?_
  rintro e v7 ⟨rfl, hb⟩
  have hA7 := blk_below hA6 hb
  have hC7 := blk_below hC6 hb
  have hD7 := blk_below hD6 hb
  have hB7 := hB6.trans (hb.mono hB6.size)
  clear c0 c1 c2 c3 c4 c5 c6 c7 c8 c9 hA6 hC6 hD6 hB6 hb
  obtain ⟨c0, c1, c2, c3, c4, c5, c6, c7, c8, c9⟩ := SpB.spIn (x := gB) hC7
  go_wp2_with fail
  refine (mB _).mono ?_
  rintro e v8 ⟨rfl, hb⟩
  have hA8 := blk_below hA7 hb
  have hC8 := blk_below hC7 hb
  have hD8 := blk_below hD7 hb
  have hB8 := hB7.trans (hb.mono hB7.size)
  clear c0 c1 c2 c3 c4 c5 c6 c7 c8 c9 hA7 hC7 hD7 hB7 hb
  obtain ⟨c0, c1, c2, c3, c4, c5, c6, c7, c8, c9⟩ := SpB.spIn (x := gC) hD8
  go_wp2_with fail
  refine (mC _).mono ?_
  rintro e v9 ⟨rfl, hb⟩
  have hA9 := blk_below hA8 hb
  have hC9 := blk_below hC8 hb
  have hD9 := blk_below hD8 hb
  have hB9 := hB8.trans (hb.mono hB8.size)
  clear c0 c1 c2 c3 c4 c5 c6 c7 c8 c9 hA8 hC8 hD8 hB8 hb
  obtain ⟨c0, c1, c2, c3, c4, c5, c6, c7, c8, c9⟩ := SpB.spIn (x := gA) hA9
  go_wp2_with fail
  refine (aA1 _).mono ?_
  rintro e v10 ⟨rfl, hb⟩
  have hA10 := blk_below hA9 hb
  have hC10 := blk_below hC9 hb
  have hD10 := blk_below hD9 hb
  have hB10 := hB9.trans (hb.mono hB9.size)
  clear c0 c1 c2 c3 c4 c5 c6 c7 c8 c9 hA9 hC9 hD9 hB9 hb
  obtain ⟨c0, c1, c2, c3, c4, c5, c6, c7, c8, c9⟩ := SpB.spIn (x := gA) hA10
  go_wp2_with fail
  refine (aA2 _).mono ?_
  rintro e v11 ⟨rfl, hb⟩
  have hA11 := blk_below hA10 hb
  have hC11 := blk_below hC10 hb
  have hD11 := blk_below hD10 hb
  have hB11 := hB10.trans (hb.mono hB10.size)
  clear c0 c1 c2 c3 c4 c5 c6 c7 c8 c9 hA10 hC10 hD10 hB10 hb
  obtain ⟨c0, c1, c2, c3, c4, c5, c6, c7, c8, c9⟩ := SpB.spIn (x := gA) hA11
  go_wp2_with fail
  refine (nA _).mono ?_
  rintro e v12 ⟨rfl, hb⟩
  have hA12 := blk_below hA11 hb
  have hC12 := blk_below hC11 hb
  have hD12 := blk_below hD11 hb
  have hB12 := hB11.trans (hb.mono hB11.size)
  clear c0 c1 c2 c3 c4 c5 c6 c7 c8 c9 hA11 hC11 hD11 hB11 hb
  go_wp2
  go_ret
  exact ⟨rfl, hB12⟩

end Go.Proofs.YtkdejfedigiohaaGreatDoor
