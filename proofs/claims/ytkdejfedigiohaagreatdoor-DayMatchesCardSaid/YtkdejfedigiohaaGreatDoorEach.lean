/- The values of an item, one by one: the iterator's contract. -/
import Derived.Test.YtkdejfedigiohaaGreatDoorItem2
import Derived.RangeFuncNested
import Derived.RangeFuncBound
import Derived.RangeFuncCalls
import Derived.RangeFuncLeaves
import Derived.Shelf.RegionOpenPlain
import Derived.WalkKit
import Derived.OwnWalkIn
import Derived.TacticsInMore
import Derived.LoopNIn
import Derived.LoopIn
namespace Go.Proofs.YtkdejfedigiohaaGreatDoor
open Go.RowKit Go.Proofs.YtkdejfedigiohaaGreatDoorW.PrintWords Go.Proofs.YtkdejfedigiohaaGreatDoorW.PrintLast Go.Proofs.YtkdejfedigiohaaGreatDoorW.PrintMore
set_option linter.unusedVariables false
set_option linter.unusedSimpArgs false

attribute [local go_sem] Oper.semAt_some

def dayOf (kind v : Int) : Int := if kind = 4 then v % 7 else v
/-- The values from v on, at most k of them. -/
def valsF (kind hi st : Int) : Nat → Int → List Int
  | 0, _ => []
  | k + 1, v => if v ≤ hi then dayOf kind v :: valsF kind hi st k (v + st) else []
def valsI (kind lo hi st : Int) : List Int := valsF kind hi st 64 lo

def KpI (bi bp : Nat) (W W' : World) : Prop := W'.heap[bi]? = W.heap[bi]? ∧ W'.heap[bp]? = W.heap[bp]?
theorem kpI_t {bi bp : Nat} {A B C : World} (h : KpI bi bp A B) (k : KpI bi bp B C) : KpI bi bp A C := ⟨k.1.trans h.1, k.2.trans h.2⟩

theorem each_q (b : Nat) (W : World) :
    Calls Tryz.prog 77 #[.pointer (some ⟨b, 0, none⟩)] W fun e w' => e = .returned (.func (.func 112) #[] #[.pointer (some ⟨W.heap.size, 0, none⟩)])
      ∧ w' = W.alloc (.cells #[.pointer (some ⟨b, 0, none⟩)] 108) := by
  go_enter Tryz.func77, Tryz.ntmps77
  go_wp2
  go_ret
  exact ⟨rfl, rfl⟩

set_option maxRecDepth 100000 in
set_option maxHeartbeats 2000000 in
theorem each1_in (n : Nat) (hn : 1 ≤ n) (l bi bp : Nat) (t a be : ByteArray) (cut : Bool) (ends : Value) (kind lo hi st : Int) (h0 : 0 ≤ lo) (hh : hi ≤ 59) (hs : 1 ≤ st) (hs2 : st ≤ 9999) (J Jx : List Int → World → Prop)
    (hY : ∀ pre x W, J pre W → pre.length < (valsI kind lo hi st).length → YieldAt Fence.wide (n - 1) Tryz.prog l #[.int .i64 x] W fun e W' =>
      (e = .returned (.bool true) ∧ J (pre ++ [x]) W' ∧ KpI bi bp W W') ∨ (e = .returned (.bool false) ∧ Jx (pre ++ [x]) W'))
    (W : World) (hI : ItB W bi t a be cut ends kind lo hi st) (hP : W.heap[bp]? = some (.cells #[.pointer (some ⟨bi, 0, none⟩)] 108 (0, 0))) (hJ0 : J [] W) :
    CallsIn Fence.wide n Tryz.prog 112 #[.func (.yield l) #[] #[], .pointer (some ⟨bp, 0, none⟩)] W fun e W' => (∃ v, e = .returned v) ∧
      ((∃ ys, ys = valsI kind lo hi st ∧ J ys W') ∨ (∃ pre, pre <+: valsI kind lo hi st ∧ Jx pre W')) := by
  refine callsIn_of_wp Tryz.func112 rfl trivial ?_ rfl
  simp only [Tryz.ntmps112, List.size_toArray, List.length_cons, List.length_nil, Nat.reduceAdd, Nat.reduceSub, Array.replicate_succ, Array.replicate_zero, List.push_toArray, List.append_toArray, List.nil_append, List.cons_append]
  obtain ⟨⟨c0, c1, c2, c3, c4, c5, c6, c7, c8⟩, f0, f1, f2, f3, f4, f5, f6, f7, f8⟩ := hI.cells
  have p0 : W.cell? ⟨bp, 0, none⟩ = some (.pointer (some ⟨bi, 0, none⟩)) := blk_cell hP 0
  have hI0 := Lib.hid hI
  have hP0 := Lib.hid hP
  clear hI hP
  gi_wp2
  gi_loopw [3] (fun p wr => ∃ (pre : List Int) (k : Nat) (v : Int), p = .int .i64 v ∧ 0 ≤ v ∧ hi + 1 - v ≤ k ∧ Hid (valsI kind lo hi st = pre ++ valsF kind hi st k v) ∧ J pre wr ∧ Hid (ItB wr bi t a be cut ends kind lo hi st)
      ∧ Hid (wr.heap[bp]? = some (.cells #[.pointer (some ⟨bi, 0, none⟩)] 108 (0, 0)))) (fun p _ => (hi + 1 - intOf p).toNat)
  case atStart => exact ⟨[], 64, lo, rfl, h0, by omega, rfl, hJ0, hI0, hP0⟩
  case round =>
    obtain ⟨pre, k, v, rfl, hv0, hk, hE, hJ, hIr, hPr⟩ := hrel
    obtain ⟨⟨c0, c1, c2, c3, c4, c5, c6, c7, c8⟩, f0, f1, f2, f3, f4, f5, f6, f7, f8⟩ := ItB.cells hIr.out
    have p0 : wr.cell? ⟨bp, 0, none⟩ = some (.pointer (some ⟨bi, 0, none⟩)) := blk_cell hPr.out 0
    by_cases hle : v ≤ hi
    · obtain ⟨k, rfl⟩ : ∃ j, k = j + 1 := ⟨k - 1, by omega⟩
      have e1 : valsF kind hi st (k + 1) v = dayOf kind v :: valsF kind hi st k (v + st) := by simp only [valsF]; rw [if_pos hle]
      have hEo := hE.out
      rw [e1] at hEo
      have hlen := Lib.hid (show pre.length < (valsI kind lo hi st).length by rw [hEo]; simp)
      by_cases h4 : kind = 4
      · have ed : dayOf kind v = v % 7 := by unfold dayOf; rw [if_pos h4]
        rw [ed] at hEo
        have hE2 := Lib.hid (show valsI kind lo hi st = (pre ++ [v % 7]) ++ valsF kind hi st k (v + st) by rw [hEo]; simp)
        have hpf := Lib.hid (show (pre ++ [v % 7]) <+: valsI kind lo hi st from ⟨_, hE2.out.symm⟩)
        have h4b : (kind == 4) = true := by simpa using h4
        clear e1 hEo hE ed h4
        obtain ⟨fn, tmps, assign, body, hy, hR⟩ := hY pre (v % 7) wr hJ hlen.out
        gi_wp2
        refine hR.mono ?_
        rintro e W3 (⟨rfl, hJ3, hk3⟩ | ⟨rfl, hJx3⟩)
        · have hI3 : ItB W3 bi t a be cut ends kind lo hi st := hk3.1.trans hIr.out
          have hP3 := hk3.2.trans hPr.out
          have p3 : W3.cell? ⟨bp, 0, none⟩ = some (.pointer (some ⟨bi, 0, none⟩)) := blk_cell hP3 0
          have c8' : W3.cell? ⟨bi, 8, none⟩ = some (.int .i64 st) := blk_cell hI3 8
          have hI3 := Lib.hid hI3
          have hP3 := Lib.hid hP3
          clear hk3
          gi_wp2
          go_roundw
          case rel => exact ⟨pre ++ [v % 7], k, v + st, rfl, by omega, by omega, hE2, hJ3, hI3, hP3⟩
          case measure => simp [intOf]; omega
        · gi_wp2
          refine bodyPost_ret (results_none rfl _ _ _) rfl ?_
          exact ⟨⟨_, rfl⟩, .inr ⟨pre ++ [v % 7], hpf.out, hJx3⟩⟩
      · have ed : dayOf kind v = v := by unfold dayOf; rw [if_neg h4]
        rw [ed] at hEo
        have hE2 := Lib.hid (show valsI kind lo hi st = (pre ++ [v]) ++ valsF kind hi st k (v + st) by rw [hEo]; simp)
        have hpf := Lib.hid (show (pre ++ [v]) <+: valsI kind lo hi st from ⟨_, hE2.out.symm⟩)
        have h4b : (kind == 4) = false := by simpa using h4
        clear e1 hEo hE ed h4
        obtain ⟨fn, tmps, assign, body, hy, hR⟩ := hY pre (v) wr hJ hlen.out
        gi_wp2
        refine hR.mono ?_
        rintro e W3 (⟨rfl, hJ3, hk3⟩ | ⟨rfl, hJx3⟩)
        · have hI3 : ItB W3 bi t a be cut ends kind lo hi st := hk3.1.trans hIr.out
          have hP3 := hk3.2.trans hPr.out
          have p3 : W3.cell? ⟨bp, 0, none⟩ = some (.pointer (some ⟨bi, 0, none⟩)) := blk_cell hP3 0
          have c8' : W3.cell? ⟨bi, 8, none⟩ = some (.int .i64 st) := blk_cell hI3 8
          have hI3 := Lib.hid hI3
          have hP3 := Lib.hid hP3
          clear hk3
          gi_wp2
          go_roundw
          case rel => exact ⟨pre ++ [v], k, v + st, rfl, by omega, by omega, hE2, hJ3, hI3, hP3⟩
          case measure => simp [intOf]; omega
        · gi_wp2
          refine bodyPost_ret (results_none rfl _ _ _) rfl ?_
          exact ⟨⟨_, rfl⟩, .inr ⟨pre ++ [v], hpf.out, hJx3⟩⟩
    · have hEo := Lib.hid (show valsI kind lo hi st = pre by
        rw [hE.out]
        cases k with
        | zero => simp [valsF]
        | succ k => simp only [valsF]; rw [if_neg hle, List.append_nil])
      clear hE
      gi_wp2
      go_end0
      exact ⟨⟨_, rfl⟩, .inl (by rw [hEo.out]; first | exact hJ | exact ⟨pre, rfl, hJ⟩)⟩


theorem each1_stops (n : Nat) (hn : 1 ≤ n) (bi bp : Nat) (t a be : ByteArray) (cut : Bool) (ends : Value) (kind lo hi st : Int) (h0 : 0 ≤ lo) (hh : hi ≤ 59) (hs : 1 ≤ st) (hs2 : st ≤ 9999)
    (w : World) (hI : ItB w bi t a be cut ends kind lo hi st) (hP : w.heap[bp]? = some (.cells #[.pointer (some ⟨bi, 0, none⟩)] 108 (0, 0))) :
    SeqStopsK Fence.wide n Tryz.prog 112 #[.pointer (some ⟨bp, 0, none⟩)] (fun x : Int => #[.int .i64 x]) (KpI bi bp) (fun xs => xs = valsI kind lo hi st) (fun pre => pre <+: valsI kind lo hi st) (valsI kind lo hi st).length w :=
  fun l J Jx W hW _ _ hY hJ0 => each1_in n hn l bi bp t a be cut ends kind lo hi st h0 hh hs hs2 J Jx hY W (blk_below hI hW) (blk_below hP hW) hJ0

end Go.Proofs.YtkdejfedigiohaaGreatDoor
