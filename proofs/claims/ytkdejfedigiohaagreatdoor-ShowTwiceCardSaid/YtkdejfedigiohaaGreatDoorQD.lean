/- A show.text: a strings.Builder that lies in a struct, with something between. (*show.text).piece: one piece more. show.Field. spec.Get, show.Spec, show.Tidy. complinelaw20.works: the fixed facts that each show law begins with. A field's text tells the field: plain Lean. complinelaw20.ShowApart: the walk. -/
import Derived.Test.YtkdejfedigiohaaGreatDoorQB
import Derived.Test.YtkdejfedigiohaaGreatDoorQA
import Derived.Lib.AppendStr
import Derived.Lib.UnsafeStr
import Derived.Lib.Builder
import Derived.Lib.OthersKept
import Derived.Laws.Externs
import Derived.RangeFuncFrom
import Derived.StillTailTactics
import Derived.Test.YtkdejfedigiohaaGreatDoorQC
import Derived.RangeFuncCalls
/- A show.text: a strings.Builder that lies in a struct, with something between. -/
namespace Go.Proofs.YtkdejfedigiohaaGreatDoor
open Go.RowKit Go.Proofs.YtkdejfedigiohaaGreatDoorW.PrintWords Go.Proofs.YtkdejfedigiohaaGreatDoorW.PrintLast Go.Proofs.YtkdejfedigiohaaGreatDoorW.PrintMore
set_option linter.unusedVariables false
set_option linter.unusedSimpArgs false

open Go.Shelf

theorem infoU8 : (Tryz.prog.info? 5).map (fun i => (i.zero, i.size, i.bytes)) = some (some (.int .u8 0), 1, 1) := by kernel_rfl
theorem sizeBld : (Tryz.prog.info? 87).map (·.size) = some 2 := by kernel_rfl
theorem liesBld : liesAt Tryz.prog Tryz.prog.depth 89 (3 / Tryz.prog.cellsOf 89) 0 87 1 = true := by kernel_rfl
theorem cellsU8 : Tryz.prog.cellsOf 5 = 1 := by kernel_rfl

/-- A text of the call's own, in block b: its bytes, and what stands between. -/
structure TextAt (B b : Nat) (sep : ByteArray) (bs : List Value) (W : World) : Prop where
  lo : B ≤ b
  ex : ∃ p v, W.heap[b]? = some (.cells #[p, v, .string sep] 89 (0, 0)) ∧ (p = .pointer none ∨ p = .pointer (some ⟨b, 0, none⟩)) ∧ W.ownsRow B 5 1 v bs.length bs

theorem TextAt.new (sep : ByteArray) (W : World) : TextAt W.heap.size W.heap.size sep [] (W.alloc (.cells #[.pointer none, .slice none 0 0, .string sep] 89)) :=
  ⟨Nat.le_refl _, _, _, blk_new _ _, .inl rfl, World.ownsRow_nil _ _ _ _⟩
theorem TextAt.lt {B b : Nat} {sep : ByteArray} {bs : List Value} {W : World} (h : TextAt B b sep bs W) : b < W.heap.size := by
  obtain ⟨p, v, hb, _⟩ := h.ex
  exact blk_lt hb
theorem owns_ne {W : World} {B b : Nat} {v : Value} {n : Nat} {xs : List Value} {cs : Array Value} (hown : W.ownsRow B 5 1 v n xs) (hb : W.heap[b]? = some (.cells cs 89 (0, 0))) : v.ownBlock ≠ some b :=
  Lib.ownBlock_ne hown hb (by decide)
/-- It is kept where cells are kept. -/
theorem TextAt.kept {B b : Nat} {sep : ByteArray} {bs : List Value} {W W' : World} {row : Option Nat} (h : TextAt B b sep bs W) (hg : W.grownBy W' row) (hr : ∀ r, row = some r → ∃ o : Obj, W.heap[r]? = some o ∧ o.isCells = false) : TextAt B b sep bs W' := by
  obtain ⟨p, v, hb, hp, hown⟩ := h.ex
  refine ⟨h.lo, p, v, (grownBy_keeps_cells hg hr hb rfl).trans hb, hp, hown.kept hg ?_⟩
  rcases hown.2 with ⟨rfl, _⟩ | ⟨g, cap, cur, rfl, _, hgg, _⟩
  · exact .inl rfl
  · right
    intro e
    obtain ⟨o, ho, hc⟩ := hr g e.symm
    rw [hgg] at ho; cases ho; cases hc
theorem TextAt.below {B b : Nat} {sep : ByteArray} {bs : List Value} {W W' : World} (h : TextAt B b sep bs W) (hb : Below W.heap.size W W') : TextAt B b sep bs W' :=
  h.kept (row := none) ⟨hb.os, hb.tape, hb.output, hb.size, fun k hk _ => hb.block k hk⟩ (fun r e => by cases e)

set_option maxRecDepth 100000 in
set_option maxHeartbeats 2000000 in
theorem len_any (B b : Nat) (sep : ByteArray) (bs : List Value) (w : World) (h : TextAt B b sep bs w) :
    Calls Tryz.prog 96 #[.pointer (some ⟨b, 0, none⟩)] w fun e w' => e = .returned (.int .i64 bs.length) ∧ w = w' := by
  obtain ⟨p, v, hb, _, hown⟩ := h.ex
  obtain ⟨ao, cap, rfl⟩ : ∃ ao cap, v = .slice ao bs.length cap := by
    rcases hown.2 with ⟨hv, h0⟩ | ⟨g, cap, cur, hv, _⟩
    · exact ⟨none, 0, by rw [hv, h0]⟩
    · exact ⟨_, _, hv⟩
  have c1 : w.cell? ⟨b, 1, none⟩ = some (.slice ao bs.length cap) := blk_cell hb 1
  clear h hb hown
  go_enter Tryz.func96, Tryz.ntmps96
  go_wp2
  go_ret
  exact ⟨rfl, rfl⟩

set_option maxRecDepth 100000 in
set_option maxHeartbeats 2000000 in
theorem copy_used (b : Nat) (w : World) (h0 : w.cell? ⟨b, 0, none⟩ = some (.pointer (some ⟨b, 0, none⟩))) :
    Calls Tryz.prog 121 #[.pointer (some ⟨b, 0, none⟩)] w fun e w' => e = .returned (.tuple #[]) ∧ w' = w := by
  obtain ⟨j, hj, _⟩ := Option.map_eq_some_iff.1 sizeBld
  go_enter Tryz.func121, Tryz.ntmps121
  go_wp2
  rw [Lib.run_neq_ptr_same w _ Tryz.underlying84 hj]
  go_wp2
  go_end0
  exact ⟨rfl, rfl⟩

set_option maxRecDepth 100000 in
set_option maxHeartbeats 2000000 in
theorem copy_fresh (b : Nat) (w : World) (h0 : w.cell? ⟨b, 0, none⟩ = some (.pointer none)) (hsh : w.shape? b = some (89, 3)) (hfz : w.frozen? ⟨b, 0, none⟩ = false) :
    Calls Tryz.prog 121 #[.pointer (some ⟨b, 0, none⟩)] w fun e w' => e = .returned (.tuple #[]) ∧ w' = w.setCell ⟨b, 0, none⟩ (.pointer (some ⟨b, 0, none⟩)) := by
  obtain ⟨j, hj, hjs⟩ := Option.map_eq_some_iff.1 sizeBld
  go_enter Tryz.func121, Tryz.ntmps121
  go_wp2
  rw [Lib.run_to_unsafe w ⟨b, 0, none⟩ Tryz.underlying84 Tryz.underlying157 hj (by rw [hjs]; decide) hsh (Nat.zero_lt_succ 2)]
  simp only [Result.andThen]
  rw [Oper.upon_value]
  go_wp2
  rw [run_callFunc_extern Tryz.func143 (by kernel_rfl) (by kernel_rfl) (by kernel_rfl) (e := Extern.AbiNoEscape.same) (by kernel_rfl)]
  rw [Lib.run_noEscape]
  simp only [Result.andThen]
  rw [Oper.upon_value]
  go_wp2
  rw [Lib.run_from_unsafe w ⟨b, 0, none⟩ Tryz.underlying157 Tryz.underlying84 hj hsh liesBld]
  simp only [Result.andThen]
  rw [Oper.upon_value]
  go_wp2
  go_end0
  exact ⟨rfl, rfl⟩

/-- .. and it is used behind it. -/
theorem copy_any (B b : Nat) (sep : ByteArray) (bs : List Value) (w : World) (h : TextAt B b sep bs w) :
    Calls Tryz.prog 121 #[.pointer (some ⟨b, 0, none⟩)] w fun e w' => e = .returned (.tuple #[]) ∧ Hid (Below B w w' ∧ Lib.OthersKept 5 (some b) w w' ∧ ∃ v, w'.heap[b]? = some (.cells #[.pointer (some ⟨b, 0, none⟩), v, .string sep] 89 (0, 0)) ∧ w'.ownsRow B 5 1 v bs.length bs) := by
  obtain ⟨p, v, hb, hp, hown⟩ := h.ex
  rcases hp with rfl | rfl
  · refine (copy_fresh b w (blk_cell hb 0) (by simp [World.shape?, hb]) (blk_frozen hb 0)).mono ?_
    rintro e w' ⟨rfl, rfl⟩
    refine ⟨rfl, (Below.refl B w).setCell (p := ⟨b, 0, none⟩) h.lo _, (Lib.OthersKept.refl _ _ _).setCell ⟨b, 0, none⟩ rfl _, v, blk_put hb 0 _ rfl, ?_⟩
    exact hown.kept (row := some b) ⟨rfl, rfl, rfl, by simp [World.setCell], fun k _ hk => Below.heap_setCell _ _ _ _ (fun e => hk (by simp [e]))⟩ (Or.inr (owns_ne hown hb))
  · refine (copy_used b w (blk_cell hb 0)).mono ?_
    rintro e w' ⟨rfl, rfl⟩
    exact ⟨rfl, Below.refl B _, Lib.OthersKept.refl _ _ _, v, hb, hown⟩

set_option maxRecDepth 100000 in
set_option maxHeartbeats 2000000 in
theorem write_any (B b : Nat) (sep : ByteArray) (bs : List Value) (s : ByteArray) (w : World) (h : TextAt B b sep bs w) (hlen : bs.length + s.size ≤ 140737488355328) (hBw : B ≤ w.heap.size) :
    Calls Tryz.prog 97 #[.pointer (some ⟨b, 0, none⟩), .string s] w fun e w' => e = .returned (.tuple #[.int .i64 s.size, .nilIface]) ∧ Hid (TextAt B b sep (bs ++ Lib.strCells s) w' ∧ Below B w w' ∧ Lib.OthersKept 5 (some b) w w') := by
  obtain ⟨i0, hi, hz0, hz1, hz2⟩ := info_parts infoU8
  have hlo := h.lo
  go_enter Tryz.func97, Tryz.ntmps97
  go_wp2_with fail
  refine (copy_any B b sep bs _ h).mono ?_
  rintro e w1 ⟨rfl, hk⟩
  obtain ⟨hb1, hk1, v, hbk, hown⟩ := hk.out
  clear hk
  have c0 : w1.cell? ⟨b, 0, none⟩ = some (.pointer (some ⟨b, 0, none⟩)) := blk_cell hbk 0
  have c1 : w1.cell? ⟨b, 1, none⟩ = some v := blk_cell hbk 1
  have hne := owns_ne hown hbk
  have hbk := Lib.hid hbk
  have hown := Lib.hid hown
  go_wp2_with (at_builtin; refine Lib.wpList_append_own_string _ rfl _ _ 85 9 rfl B 5 i0 Tryz.underlying85 Tryz.underlying9 hi hz0 hz1 hz2 _ _ _ rfl hown.out s rfl ?c3 ?c4 ?c5 ?_)
  case c3 => unfold maxLen; omega
  case c4 => omega
  case c5 => have := hb1.size; omega
  intro v' w2 hown' hgrow _
  have hlt : b < w1.heap.size := blk_lt hbk.out
  have hb2 : w2.heap[b]? = some (.cells #[.pointer (some ⟨b, 0, none⟩), v, .string sep] 89 (0, 0)) := by
    rw [hgrow.block b hlt (fun e => hne e.symm)]
    exact hbk.out
  have d0 : w2.cell? ⟨b, 0, none⟩ = some (.pointer (some ⟨b, 0, none⟩)) := blk_cell hb2 0
  have d1 : w2.cell? ⟨b, 1, none⟩ = some v := blk_cell hb2 1
  have f1 : w2.frozen? ⟨b, 1, none⟩ = false := blk_frozen hb2 1
  have hk2 : Lib.OthersKept 5 (some b) w w2 := hk1.grown hgrow (fun g e => by
    rcases hown.out.2 with ⟨rfl, _⟩ | ⟨g', cap, cur, rfl, _, hgg, _⟩
    · simp [Value.ownBlock] at e
    · simp only [Value.ownBlock, Option.some.injEq] at e
      subst e
      exact ⟨_, _, hgg⟩)
  obtain ⟨ao, n', cap, rfl⟩ : ∃ ao n' cap, v' = .slice ao n' cap := by
    rcases hown'.2 with ⟨hv, _⟩ | ⟨g, cap, cur, hv, _⟩
    · exact ⟨_, _, _, hv⟩
    · exact ⟨_, _, _, hv⟩
  have hB2 : Below B w w2 := hb1.grown hgrow (by have := hb1.size; omega) (fun k hk => (hown.out.lt k hk).1)
  have hown' := Lib.hid hown'
  have hb2 := Lib.hid hb2
  clear hgrow
  go_wp2
  go_ret2
  refine ⟨rfl, ⟨hlo, _, _, blk_put hb2.out 1 _ rfl, .inr rfl, ?_⟩, hB2.setCell (p := ⟨b, 1, none⟩) hlo _, hk2.setCell ⟨b, 1, none⟩ rfl _⟩
  have ho := hown'.out
  rw [show bs.length + s.size = (bs ++ Lib.strCells s).length by rw [List.length_append, Lib.strCells_length]] at ho
  exact ho.kept (row := some b) ⟨rfl, rfl, rfl, by simp [World.setCell], fun k _ hk => Below.heap_setCell _ _ _ _ (fun e => hk (by simp [e]))⟩ (Or.inr (owns_ne ho hb2.out))

set_option maxRecDepth 100000 in
set_option maxHeartbeats 2000000 in
theorem string_any (B b : Nat) (sep : ByteArray) (l : List UInt8) (w : World) (h : TextAt B b sep (Lib.byteCells l) w) (h0 : l ≠ []) :
    Calls Tryz.prog 61 #[.pointer (some ⟨b, 0, none⟩)] w fun e w' => e = .returned (.string ⟨l.toArray⟩) ∧ Hid (Below B w w' ∧ Lib.OthersKept 5 (some b) w w') := by
  obtain ⟨p, v, hbk, hp, hown⟩ := h.ex
  have hl0 : l.length ≠ 0 := by simpa using h0
  rw [Lib.byteCells_length] at hown
  obtain ⟨g, cap, cur, rfl, hbg, hg, hnc, hcm, hcs, htake⟩ : ∃ g cap cur, v = .slice (some ⟨g, 0, none⟩) l.length cap ∧ B ≤ g ∧ w.heap[g]? = some (.cells cur 5 (0, 0)) ∧ l.length ≤ cap ∧ cap ≤ maxLen ∧ cur.size = cap * 1 ∧ cur.toList.take (l.length * 1) = Lib.byteCells l := by
    rcases hown.2 with ⟨_, hz⟩ | ⟨g, cap, cur, hv, r⟩
    · exact absurd hz hl0
    · exact ⟨g, cap, cur, hv, r⟩
  have c1 : w.drew.cell? ⟨b, 1, none⟩ = some (.slice (some ⟨g, 0, none⟩) l.length cap) := blk_cell (w := w.drew) hbk 1
  have hSD : (Builtin.unsafeSliceData_ #[85] 128 #[.slice (some ⟨g, 0, none⟩) l.length cap]).run Tryz.prog w.drew = .ok (.pointer (some ⟨g, 0, none⟩)) w.drew :=
    Lib.run_unsafeSliceData_row _ _ _ _ _ _ (by omega)
  have hUS : (Builtin.unsafeString_ #[128, 3] 9 #[.pointer (some ⟨g, 0, none⟩), .int .i64 l.length]).run Tryz.prog w.drew = .ok (.string ⟨l.toArray⟩) (w.drew.freeze ⟨g, 0, none⟩ l.length) := by
    refine Lib.run_unsafeString_row w.drew 128 3 9 5 Tryz.underlying128 cellsU8 g cur.size (by have hg' : w.drew.heap[g]? = some (.cells cur 5 (0, 0)) := hg; simp [World.shape?, hg']) l h0 (by omega) (by unfold maxLen at hcm; omega) ?_
    intro j x hx
    have := hown.cells (g := g) rfl j (.int .u8 x.toNat) (by simp [Lib.byteCells, hx])
    exact this
  have hg2 : w.drew.heap[g]? = some (.cells cur 5 (0, 0)) := hg
  have hkO := Lib.hid (((Lib.OthersKept.refl 5 (some b) w).drew).freeze ⟨g, 0, none⟩ l.length ⟨_, _, hg2⟩)
  clear hbk hown hg hcs htake h hg2
  go_enter Tryz.func61, Tryz.ntmps61
  go_wp2
  go_region
  all_goals (go_wp2; go_ret; exact ⟨rfl, Lib.below_freeze (Below.drew (Below.refl B w)) (p := ⟨g, 0, none⟩) hbg _, hkO.out⟩)

theorem okept_others {b : Nat} {W W' : World} {cs : Array Value} (h : Lib.OthersKept 5 (some b) W W') (hb : W.heap[b]? = some (.cells cs 89 (0, 0))) (hs : W.heap.size ≤ W'.heap.size) : KeepsOthers W W' :=
  ⟨hs, fun k o hk ho => h k o hk (fun e => by cases e; rw [hb] at hk; cases hk; cases ho) (fun c fz e => by subst e; cases ho)⟩
theorem okept_blk {b k : Nat} {W W' : World} {cs : Array Value} {T : TypeId} {fz : Nat × Nat} (h : Lib.OthersKept 5 (some b) W W') (hk : W.heap[k]? = some (.cells cs T fz)) (hne : k ≠ b) (hT : T ≠ 5) : W'.heap[k]? = some (.cells cs T fz) :=
  h k _ hk (fun e => hne (Option.some.inj e)) (fun c fz e => by cases e; exact hT rfl)
theorem strCells_bytes (s : ByteArray) : Lib.strCells s = Lib.byteCells s.data.toList := rfl
theorem byteCells_app (a b : List UInt8) : Lib.byteCells (a ++ b) = Lib.byteCells a ++ Lib.byteCells b := by simp [Lib.byteCells]

end Go.Proofs.YtkdejfedigiohaaGreatDoor

/- (*show.text).piece: one piece more. -/
namespace Go.Proofs.YtkdejfedigiohaaGreatDoor
open Go.RowKit Go.Proofs.YtkdejfedigiohaaGreatDoorW.PrintWords Go.Proofs.YtkdejfedigiohaaGreatDoorW.PrintLast Go.Proofs.YtkdejfedigiohaaGreatDoorW.PrintMore
set_option linter.unusedVariables false
set_option linter.unusedSimpArgs false


set_option maxRecDepth 100000 in
set_option maxHeartbeats 2000000 in
theorem piece_any (B b : Nat) (c : UInt8) (l t : List UInt8) (w : World) (h : TextAt B b ⟨#[c]⟩ (Lib.byteCells l) w) (hlen : l.length + 1 + t.length ≤ 140737488355328) (hBw : B ≤ w.heap.size) :
    Calls Tryz.prog 59 #[.pointer (some ⟨b, 0, none⟩), .string ⟨t.toArray⟩] w fun e w' => e = .returned (.tuple #[]) ∧ Hid (TextAt B b ⟨#[c]⟩ (Lib.byteCells (pieceL c l t)) w' ∧ Below B w w' ∧ Lib.OthersKept 5 (some b) w w') := by
  have hL := len_any B b ⟨#[c]⟩ _ w h
  rw [Lib.byteCells_length] at hL
  have hL := Lib.hid hL
  have h0 := Lib.hid h
  obtain ⟨p, v, hb, _, _⟩ := h.ex
  have c2 : w.cell? ⟨b, 2, none⟩ = some (.string ⟨#[c]⟩) := blk_cell hb 2
  clear h hb
  by_cases hl : l = []
  · subst hl
    have hwr := Lib.hid (write_any B b ⟨#[c]⟩ (Lib.byteCells []) ⟨t.toArray⟩ w h0.out (by simp [Lib.byteCells, ByteArray.size]; omega) hBw)
    clear c2
    go_enter Tryz.func59, Tryz.ntmps59
    go_wp2_with fail
    refine hL.out.mono ?_
    rintro e w1 ⟨rfl, rfl⟩
    clear hL
    go_wp2_with fail
    refine hwr.out.mono ?_
    rintro e w1 ⟨rfl, hk⟩
    clear hwr
    go_wp2
    go_end0
    exact ⟨rfl, hk⟩
  · have hpos : 0 < (l.length : Int) := by have := List.length_pos_iff.2 hl; omega
    go_enter Tryz.func59, Tryz.ntmps59
    go_wp2_with fail
    refine hL.out.mono ?_
    rintro e w1 ⟨rfl, rfl⟩
    clear hL
    go_wp2_with fail
    go_still_tail 7, (by kernel_rfl)
    change wpList _ _ _ _ _ w.drew
    have h1 : TextAt B b ⟨#[c]⟩ (Lib.byteCells l) w.drew := h0.out.below ((Below.refl _ _).drew)
    have hB1 : Below B w w.drew := (Below.refl _ _).drew
    have hK1 : Lib.OthersKept 5 (some b) w w.drew := (Lib.OthersKept.refl _ _ _).drew
    have hBw1 : B ≤ w.drew.heap.size := hBw
    generalize w.drew = w2 at h1 hB1 hK1 hBw1 ⊢
    go_wp2_with fail
    refine (write_any B b ⟨#[c]⟩ _ ⟨#[c]⟩ w2 h1 (by simp [Lib.byteCells, ByteArray.size]; omega) hBw1).mono ?_
    rintro e w3 ⟨rfl, hk⟩
    obtain ⟨h3, hB3, hK3⟩ := hk.out
    clear hk h1
    have h3 := Lib.hid h3
    go_wp2_with fail
    refine (write_any B b ⟨#[c]⟩ _ ⟨t.toArray⟩ w3 h3.out (by simp [Lib.byteCells, Lib.strCells, ByteArray.size]; omega) (by have := hB3.size; omega)).mono ?_
    rintro e w4 ⟨rfl, hk⟩
    obtain ⟨h4, hB4, hK4⟩ := hk.out
    clear hk h3
    have h4 := Lib.hid h4
    go_wp2
    go_end0
    refine ⟨rfl, ?_, (hB1.trans hB3).trans hB4, (hK1.trans hK3).trans hK4⟩
    have := h4.out
    rw [strCells_bytes, strCells_bytes, ← byteCells_app, ← byteCells_app] at this
    have e : pieceL c l t = l ++ [c] ++ t := by unfold pieceL; rw [if_neg hl]; simp
    rw [e]
    exact this

end Go.Proofs.YtkdejfedigiohaaGreatDoor

/- show.Field. -/
namespace Go.Proofs.YtkdejfedigiohaaGreatDoor
open Go.RowKit Go.Proofs.YtkdejfedigiohaaGreatDoorW.PrintWords Go.Proofs.YtkdejfedigiohaaGreatDoorW.PrintLast Go.Proofs.YtkdejfedigiohaaGreatDoorW.PrintMore
set_option linter.unusedVariables false
set_option linter.unusedSimpArgs false

attribute [local go_sem] Oper.semAt_some
open Go.Shelf

theorem dg_dec (n : Nat) (h : n < 64) : Lib.decDigits n = dg n := by
  have : ∀ n < 64, Lib.decDigits n = dg n := by decide +kernel
  exact this n h
theorem itoa_q (n : Nat) (h : n < 64) (w : World) : Calls Tryz.prog 60 #[.int .i64 (n : Int)] w fun e w' => e = .returned (.string ⟨(dg n).toArray⟩) ∧ w = w' := by
  refine (Tryz.strconv_Itoa_small n (by omega) w).mono ?_
  rintro e w' ⟨rfl, rfl⟩
  rw [dg_dec n h]
  exact ⟨rfl, rfl⟩

set_option maxRecDepth 100000 in
set_option maxHeartbeats 2000000 in
theorem field_bad (b : Int) (s : Bool) (kind : Int) (w : World) (hb : U64 b) (h : chkI b s kind ≠ 0) :
    Calls Tryz.prog 26 #[.agg #[.int .u64 b, .bool s], .int .i64 kind] w fun e w' => e = .returned (.tuple #[.string ⟨#[]⟩, .int .i64 (chkI b s kind)]) ∧ Below w.heap.size w w' := by
  have hne : (chkI b s kind != 0) = true := by simpa using h
  have hC := fun w => Lib.hid (check_any b s kind w hb)
  clear h
  generalize chkI b s kind = c at *
  go_enter Tryz.func26, Tryz.ntmps26
  go_wp2_with fail
  refine (hC _).out.mono ?_
  rintro e w1 ⟨rfl, hb⟩
  go_wp2
  go_ret2
  exact ⟨rfl, ((Below.refl _ _).alloc (Nat.le_refl _) _).trans (hb.mono (by simp))⟩

set_option maxRecDepth 100000 in
set_option maxHeartbeats 2000000 in
theorem field_star (b : Int) (kind : Int) (w : World) (hb : U64 b) (h : chkI b true kind = 0) :
    Calls Tryz.prog 26 #[.agg #[.int .u64 b, .bool true], .int .i64 kind] w fun e w' => e = .returned (.tuple #[.string ⟨#[42]⟩, .int .i64 0]) ∧ Below w.heap.size w w' := by
  have hC := fun w => Lib.hid (check_any b true kind w hb)
  rw [h] at hC
  clear h
  go_enter Tryz.func26, Tryz.ntmps26
  go_wp2_with fail
  refine (hC _).out.mono ?_
  rintro e w1 ⟨rfl, hb⟩
  have hb0 : Below w.heap.size w w1 := ((Below.refl _ _).alloc (Nat.le_refl _) _).trans (hb.mono (by simp))
  have hI : w1.heap[w.heap.size]? = some (.cells #[.int .u64 b, .bool true] 24 (0, 0)) := blk_below (blk_new _ _) hb
  have c1 : w1.cell? ⟨w.heap.size, 1, none⟩ = some (.bool true) := blk_cell hI 1
  clear hb hI
  go_wp2
  go_ret2
  exact ⟨rfl, hb0⟩

/-- What a round of the loop over the runs keeps. -/
structure RngF (w : World) (tb bf B : Nat) (V : World) (pre : List Rn) (W : World) : Prop where
  below : Below w.heap.size w W
  text : TextAt w.heap.size tb ⟨#[44]⟩ (Lib.byteCells (runsT [] (unR pre))) W
  size : V.heap.size ≤ W.heap.size
  box : W.heap[bf]? = some (.cells #[.int .u64 (B : Int), .bool false] 24 (0, 0))
theorem rngF_own {w V : World} {tb bf B : Nat} (h : w.heap.size ≤ V.heap.size) : OwnFrom V.heap.size (fun pre W => RngF w tb bf B V pre W) := by
  intro pre W W' r hI hg hr
  exact ⟨hI.below.grown hg (Nat.le_trans h hI.size) (fun k e => Nat.le_trans h (hr k e).1), hI.text.kept hg (fun k e => (hr k e).2), Nat.le_trans hI.size hg.size, (grownBy_keeps_cells hg (fun k e => (hr k e).2) hI.box rfl).trans hI.box⟩
theorem runsT_snoc (acc : List UInt8) (l : List (Nat × Nat)) (r : Nat × Nat) : runsT acc (l ++ [r]) = pieceL 44 (runsT acc l) (runL r) := by simp [runsT]
theorem dg_le (n : Nat) : (dg n).length ≤ 2 := by rw [dg_len]; split <;> omega
theorem runL_le (r : Nat × Nat) : (runL r).length ≤ 5 := by
  have h1 := dg_le r.1
  have h2 := dg_le r.2
  unfold runL
  split
  · omega
  · split <;> simp <;> omega
theorem runsT_le (l : List (Nat × Nat)) : ∀ acc, (runsT acc l).length ≤ acc.length + 6 * l.length := by
  induction l with
  | nil => intro acc; simp [runsT]
  | cons r l ih =>
    intro acc
    have h1 := ih (pieceL 44 acc (runL r))
    have h2 := runL_le r
    have h3 : (pieceL 44 acc (runL r)).length ≤ acc.length + 6 := by
      unfold pieceL
      split
      · omega
      · simp; omega
    show (runsT (pieceL 44 acc (runL r)) l).length ≤ _
    simp
    omega
theorem pieceL_le (c : UInt8) (a s : List UInt8) : (pieceL c a s).length ≤ a.length + 1 + s.length := by
  unfold pieceL
  split
  · omega
  · simp; omega
theorem roundF {w V W W' : World} {tb bf B : Nat} {pre : List Rn} (hT : TextAt w.heap.size tb ⟨#[44]⟩ (Lib.byteCells (runsT [] (unR pre))) W) (hB : Below w.heap.size w W) (hS : V.heap.size ≤ W.heap.size)
    (hbf : W.heap[bf]? = some (.cells #[.int .u64 (B : Int), .bool false] 24 (0, 0))) (htb : tb < bf) (hTl : 1 < w.heap.size) (hlw : w.heap.size ≤ tb)
    (x : Rn) {t : List UInt8} (ht : runL x.1 = t)
    (hk : TextAt w.heap.size tb ⟨#[44]⟩ (Lib.byteCells (pieceL 44 (runsT [] (unR pre)) t)) W' ∧ Below w.heap.size W W' ∧ Lib.OthersKept 5 (some tb) W W') :
    KeepsOthers W W' ∧ KpR bf W W' ∧ RngF w tb bf B V (pre ++ [x]) W' := by
  obtain ⟨h1, h2, h3⟩ := hk
  obtain ⟨_, _, hb, _⟩ := hT.ex
  have hbx := okept_blk h3 hbf (by omega) (by decide)
  refine ⟨okept_others h3 hb h2.size, ⟨hbx.trans hbf.symm, h2.block _ hTl⟩, hB.trans h2, ?_, Nat.le_trans hS h2.size, hbx⟩
  · rw [unR_snoc, runsT_snoc, ht]
    exact h1
theorem runsF_len (B : Nat) : ∀ (k v : Nat), (runsF B k v).length ≤ k
  | 0, v => by simp [runsF]
  | k + 1, v => by
    unfold runsF
    cases firstN B v with
    | none => simp
    | some p => have := runsF_len B k (endN B p + 1); simp; omega

theorem runs_ne {B : Nat} (h : B ≠ 0) (hB : B < 18446744073709551616) : runsN B ≠ [] := by
  intro e
  have hr := runsN_is hB
  rw [e] at hr
  cases hr with
  | nil h0 =>
    apply h
    apply Nat.eq_of_testBit_eq
    intro i
    rw [Nat.zero_testBit]
    by_cases hi : i < 64
    · exact h0 i (Nat.zero_le _) hi
    · exact bit_small hB (by omega)

set_option maxRecDepth 100000 in
set_option maxHeartbeats 2000000 in
theorem field_runs (B : Nat) (kind : Int) (w : World) (hB : B < 18446744073709551616) (h0 : B ≠ 0) (h : chkI (B : Int) false kind = 0) (hT : TabIn w) :
    Calls Tryz.prog 26 #[.agg #[.int .u64 (B : Int), .bool false], .int .i64 kind] w fun e w' => e = .returned (.tuple #[.string ⟨(runsT [] (runsN B)).toArray⟩, .int .i64 0]) ∧ Below w.heap.size w w' := by
  have hC := fun w => Lib.hid (check_any (B : Int) false kind w ⟨by omega, by omega⟩)
  rw [h] at hC
  clear h
  have hT0 := Lib.hid hT
  have hTl := hT.lt
  clear hT
  refine callsIn_wide.1 (callsIn_of_wp_marks (n := 9) Tryz.func26 rfl trivial ?_ rfl)
  refine wpIn_wide.2 ?_
  simp only [Tryz.ntmps26, List.size_toArray, List.length_cons, List.length_nil, Nat.reduceAdd, Nat.reduceSub, Array.replicate_succ, Array.replicate_zero, List.push_toArray, List.append_toArray, List.nil_append, List.cons_append]
  go_wp2_with fail
  refine (hC _).out.mono ?_
  rintro e w1 ⟨rfl, hb⟩
  have hb0 : Below w.heap.size w w1 := ((Below.refl _ _).alloc (Nat.le_refl _) _).trans (hb.mono (by simp))
  have hI : w1.heap[w.heap.size]? = some (.cells #[.int .u64 (B : Int), .bool false] 24 (0, 0)) := blk_below (blk_new _ _) hb
  have hT1 : TabIn w1 := hT0.out.below (hb0.block _ hT0.out.lt)
  have c0 : w1.cell? ⟨w.heap.size, 0, none⟩ = some (.int .u64 (B : Int)) := blk_cell hI 0
  have c1 : w1.cell? ⟨w.heap.size, 1, none⟩ = some (.bool false) := blk_cell hI 1
  have hI2 : (w1.alloc (.cells #[.pointer none, .slice none 0 0, .string ⟨#[44]⟩] 89)).heap[w.heap.size]? = some (.cells #[.int .u64 (B : Int), .bool false] 24 (0, 0)) := blk_alloc hI _
  have d0 := blk_cell hI2 0
  have d1 := blk_cell hI2 1
  simp only [List.getElem?_toArray, List.getElem?_cons_succ, List.getElem?_cons_zero] at d0 d1
  have hTH1 := Lib.hid hT1
  clear hb hT0 hI hI2 hT1
  go_wp2_with fail
  refine (runs_q (B : Int) false _).mono ?_
  rintro e w2 ⟨rfl, hw2⟩
  have hR2 : RngF w w1.heap.size (w1.alloc (.cells #[.pointer none, .slice none 0 0, .string ⟨#[44]⟩] 89)).heap.size B w2 [] w2 := by
    subst hw2
    refine ⟨(hb0.alloc hb0.size _).alloc (by have := hb0.size; simp; omega) _, ?_, Nat.le_refl _, blk_new _ _⟩
    exact (TextAt.mk hb0.size ⟨_, _, blk_new _ _, .inl rfl, World.ownsRow_nil _ _ _ _⟩ : TextAt w.heap.size w1.heap.size ⟨#[44]⟩ (Lib.byteCells (runsT [] (unR []))) _).below ((Below.refl _ _).alloc (Nat.le_refl _) _)
  have hbf : w2.heap[(w1.alloc (.cells #[.pointer none, .slice none 0 0, .string ⟨#[44]⟩] 89)).heap.size]? = some (.cells #[.int .u64 (B : Int), .bool false] 24 (0, 0)) := by subst hw2; exact blk_new _ _
  have hT2 : TabIn w2 := hTH1.out.below (by subst hw2; rw [Below.heap_alloc _ _ _ (by have := hTH1.out.lt; simp; omega), Below.heap_alloc _ _ _ hTH1.out.lt])
  have htb : w1.heap.size < (w1.alloc (.cells #[.pointer none, .slice none 0 0, .string ⟨#[44]⟩] 89)).heap.size := by simp
  have hlw := hb0.size
  clear hw2 c0 c1 d0 d1 hC hTH1 hb0
  generalize (w1.alloc (.cells #[.pointer none, .slice none 0 0, .string ⟨#[44]⟩] 89)).heap.size = bf at *
  generalize w1.heap.size = tb at *
  clear w1
  have hlb := blk_lt hbf
  have hRH := Lib.hid hR2
  have hbH := Lib.hid hbf
  have hTH := Lib.hid hT2
  go_wp2_with fail
  refine wpIn_wide.1 (wpIn_rangeFunc_ownF (F := Fence.wide) (n := 9) rfl (by decide) (gf := 94) (lb := #[.pointer (some ⟨bf, 0, none⟩)]) rfl trivial eg_ru1
    (runs1_stops (9 - 1) (by decide) bf B false hB w2 hbf hT2) kpR_t
    (fun W l o o' hl _ _ _ => ⟨World.putObj_heap_other (by omega), World.putObj_heap_other (by have := hT2.lt; omega)⟩) (Below.refl _ _) (fun _ => rfl)
    (fun pre W => RngF w tb bf B w2 pre W) (fun _ _ _ => False) (rngF_own hR2.below.size) (fun _ _ _ _ _ hs _ _ => hs) hR2
    (fun x => { tmps := #[.agg #[.int .u64 (B : Int), .bool false], .int .i64 kind, .pointer (some ⟨w.heap.size, 0, none⟩), undef, .string ⟨#[]⟩, .int .i64 0, .int .i64 0, .pointer (some ⟨tb, 0, none⟩), .int .i64 (x.1.1 : Int), .int .i64 (x.1.2 : Int), .agg #[.int .u64 (B : Int), .bool false], .int .i64 kind, .int .i64 0, .int .i64 0, .bool false, undef, .pointer (some ⟨w.heap.size, 1, none⟩), .bool false, .agg #[.pointer none, .slice none 0 0, .string ⟨#[44]⟩], .agg #[.int .u64 (B : Int), .bool false], .func (.func 94) #[] #[.pointer (some ⟨bf, 0, none⟩)], .int .i64 (x.1.1 : Int), .int .i64 (x.1.2 : Int), undef, undef, undef, undef, undef, undef, undef, undef, undef, undef, undef, undef, undef, undef, undef, undef, undef, undef, undef, undef, undef, undef, undef, undef, undef], defers := [] }) ?assign ?body ?done ?stop)
  case assign =>
    intro l x W K hK
    simp only [encR]
    gi_wp2
    exact hK
  case body =>
    rintro l pre ⟨⟨p, q⟩, hpq, hq⟩ W hI hlt
    have hTx := Lib.hid hI.text
    have hBe := hI.below
    have hSz := hI.size
    have hBx := Lib.hid hI.box
    have hBl := hBe.size
    have hl0 := runsT_le (unR pre) []
    have hl1 := runsF_len B 64 0
    have hl2 : (unR pre).length = pre.length := by simp [unR]
    have hl3 : (runsT [] (unR pre)).length ≤ 384 := by unfold runsN at hlt; simp at hl0; omega
    clear hI hl0 hl1 hl2
    simp only at hpq hq ⊢
    have hTt := TextAt.lt hTx.out
    by_cases e0 : q = p
    · subst e0
      have b0 : ((q : Int) - q == 0) = true := by simp
      gi_wp2_with fail
      refine ⟨trivial, ?_⟩
      refine (CallsIn.inRound l (callsIn_wide.2 (itoa_q q hq _))).mono ?_
      rintro e w3 ⟨rfl, rfl⟩
      gi_wp2_with fail
      refine ⟨trivial, ?_⟩
      refine (CallsIn.inRound l (callsIn_wide.2 (piece_any w.heap.size tb 44 _ (dg q) W hTx.out (by have := dg_le q; omega) hBl))).mono ?_
      rintro e w3 ⟨rfl, hk⟩
      gi_wp2
      exact roundF hTx.out hBe hSz hBx.out htb hTl hlw ⟨(q, q), hpq, hq⟩ (by simp [runL]) hk.out
    · have b0 : ((q : Int) - p == 0) = false := by rw [beq_eq_false_iff_ne]; omega
      have e0H := Lib.hid e0
      by_cases e1 : q = p + 1
      · have b1 : ((q : Int) - p == 1) = true := by rw [beq_iff_eq]; omega
        have e1H := Lib.hid e1
        clear e0 e1
        gi_wp2_with fail
        refine ⟨trivial, ?_⟩
        refine (CallsIn.inRound l (callsIn_wide.2 (itoa_q p (by omega) _))).mono ?_
        rintro e w3 ⟨rfl, rfl⟩
        gi_wp2_with fail
        refine ⟨trivial, ?_⟩
        refine (CallsIn.inRound l (callsIn_wide.2 (piece_any w.heap.size tb 44 _ (dg p) W hTx.out (by have := dg_le p; omega) hBl))).mono ?_
        rintro e w3 ⟨rfl, hk⟩
        obtain ⟨h3, hB3, hK3⟩ := hk.out
        have h3 := Lib.hid h3
        clear hk
        gi_wp2_with fail
        refine ⟨trivial, ?_⟩
        refine (CallsIn.inRound l (callsIn_wide.2 (itoa_q q hq _))).mono ?_
        rintro e w4 ⟨rfl, rfl⟩
        gi_wp2_with fail
        refine ⟨trivial, ?_⟩
        refine (CallsIn.inRound l (callsIn_wide.2 (piece_any w.heap.size tb 44 _ (dg q) w3 h3.out (by have := dg_le q; have := dg_le p; have := pieceL_le 44 (runsT [] (unR pre)) (dg p); omega) (by have := hB3.size; omega)))).mono ?_
        rintro e w4 ⟨rfl, hk⟩
        obtain ⟨h4, hB4, hK4⟩ := hk.out
        gi_wp2
        refine roundF hTx.out hBe hSz hBx.out htb hTl hlw ⟨(p, q), hpq, hq⟩ rfl ⟨?_, hB3.trans hB4, hK3.trans hK4⟩
        rw [pieceL_two _ _ _ (dg_ne p)] at h4
        rw [show runL (p, q) = dg p ++ 44 :: dg q by unfold runL; rw [if_neg e0H.out, if_pos e1H.out]]
        exact h4
      · have b1 : ((q : Int) - p == 1) = false := by rw [beq_eq_false_iff_ne]; omega
        have e1H := Lib.hid e1
        clear e0 e1
        gi_wp2_with fail
        refine ⟨trivial, ?_⟩
        refine (CallsIn.inRound l (callsIn_wide.2 (itoa_q p (by omega) _))).mono ?_
        rintro e w3 ⟨rfl, rfl⟩
        gi_wp2_with fail
        · exfalso; have := dg_le p; simp at *; omega
        refine ⟨trivial, ?_⟩
        refine (CallsIn.inRound l (callsIn_wide.2 (itoa_q q hq _))).mono ?_
        rintro e w3 ⟨rfl, rfl⟩
        gi_wp2_with fail
        · exfalso; have := dg_le p; have := dg_le q; simp at *; omega
        refine ⟨trivial, ?_⟩
        rw [show (⟨(dg p).toArray⟩ ++ ⟨#[45]⟩ ++ ⟨(dg q).toArray⟩ : ByteArray) = ⟨(dg p ++ 45 :: dg q).toArray⟩ by rw [show (⟨#[45]⟩ : ByteArray) = ⟨[45].toArray⟩ from rfl, ByteArray.mk_append_mk, ByteArray.mk_append_mk]; simp]
        refine (CallsIn.inRound l (callsIn_wide.2 (piece_any w.heap.size tb 44 _ (dg p ++ 45 :: dg q) W hTx.out (by have := dg_le q; have := dg_le p; simp; omega) hBl))).mono ?_
        rintro e w3 ⟨rfl, hk⟩
        gi_wp2
        exact roundF hTx.out hBe hSz hBx.out htb hTl hlw ⟨(p, q), hpq, hq⟩ (by show runL (p, q) = _; unfold runL; rw [if_neg e0H.out, if_neg e1H.out]) hk.out
  case stop =>
    rintro D c pre W hD _ h _
    exact h.elim
  case done =>
    rintro D ys W hD hys hI hK
    have hne : runsT [] (runsN B) ≠ [] := by
      rw [runsT_items]
      refine joinL_ne 44 _ ?_ ?_
      · have := runs_ne h0 hB
        cases hr : runsN B with
        | nil => exact absurd hr this
        | cons r l => simp [itemsL, itemsR_ne]
      · intro x hx
        simp only [itemsL, List.map_flatMap, List.mem_flatMap] at hx
        obtain ⟨r, _, hx⟩ := hx
        exact itemsR_text_ne r x hx
    have hTx := hI.text
    rw [hys] at hTx
    obtain ⟨_, _, htbk, _⟩ := hTx.ex
    have htbk := Lib.hid htbk
    have hBe := hI.below
    have hKH := Lib.hid hK
    have hS := string_any w.heap.size tb ⟨#[44]⟩ (runsT [] (runsN B)) W hTx hne
    clear hI hK hTx
    go_wp2_with fail
    refine hS.mono ?_
    rintro e W1 ⟨rfl, hk⟩
    obtain ⟨hb, ho⟩ := hk.out
    have hK1 := (okept_others ho htbk.out hb.size).same D _ hKH.out rfl
    have hBE := hBe.trans hb
    have hK1H := Lib.hid hK1
    clear hk ho hb hBe hK1 hS htbk hKH
    go_wp2
    refine ⟨by simp, .inl ⟨_, _, rfl, run_takeDeferred hK1H.out, ?_⟩⟩
    refine ⟨_, (by simp [results, Tryz.results26, go_sem]), rfl, ?_⟩
    exact hBE.trans (belowK_b (w := w) (Nat.le_refl _) W1 D _ _ (by have := hR2.below.size; omega) hK1H.out rfl rfl)

/-- show.Field, whatever the field. -/
def fieldI (b : Int) (s : Bool) (kind : Int) : List UInt8 × Int := if chkI b s kind = 0 then (fieldT b.toNat s, 0) else ([], chkI b s kind)
theorem chk_ne {b : Int} {kind : Int} {s : Bool} (h : chkI b s kind = 0) : b ≠ 0 := by
  intro e
  subst e
  unfold chkI at h
  split at h
  · omega
  · rw [if_pos rfl] at h; omega
theorem show_field (b : Int) (s : Bool) (kind : Int) (w : World) (hb : U64 b) (hT : TabIn w) :
    Calls Tryz.prog 26 #[.agg #[.int .u64 b, .bool s], .int .i64 kind] w fun e w' => e = .returned (.tuple #[.string ⟨(fieldI b s kind).1.toArray⟩, .int .i64 (fieldI b s kind).2]) ∧ Below w.heap.size w w' := by
  by_cases h : chkI b s kind = 0
  · have e : fieldI b s kind = (fieldT b.toNat s, 0) := by unfold fieldI; rw [if_pos h]
    rw [e]
    cases s with
    | true => exact field_star b kind w hb h
    | false =>
      obtain ⟨B, rfl⟩ := Int.eq_ofNat_of_zero_le hb.1
      exact field_runs B kind w (by have := hb.2; omega) (by have := chk_ne h; omega) h hT
  · have e : fieldI b s kind = ([], chkI b s kind) := by unfold fieldI; rw [if_neg h]
    rw [e]
    exact field_bad b s kind w hb h

end Go.Proofs.YtkdejfedigiohaaGreatDoor

/- spec.Get, show.Spec, show.Tidy. -/
namespace Go.Proofs.YtkdejfedigiohaaGreatDoor
open Go.RowKit Go.Proofs.YtkdejfedigiohaaGreatDoorW.PrintWords Go.Proofs.YtkdejfedigiohaaGreatDoorW.PrintLast Go.Proofs.YtkdejfedigiohaaGreatDoorW.PrintMore
set_option linter.unusedVariables false
set_option linter.unusedSimpArgs false


theorem known5_q (k : Int) (w : World) (h0 : 0 ≤ k) (h1 : k ≤ 4) : Calls Tryz.prog 57 #[.int .i64 k] w fun e w' => e = .returned (.bool true) ∧ w = w' := by
  go_enter Tryz.func57, Tryz.ntmps57
  go_wp2
  go_ret
  exact ⟨rfl, rfl⟩

set_option maxRecDepth 100000 in
set_option maxHeartbeats 2000000 in
theorem get_0 (x : Sp) (w : World) : Calls Tryz.prog 67 #[.agg #[.int .u64 x.m.b, .bool x.m.s, .int .u64 x.h.b, .bool x.h.s, .int .u64 x.d.b, .bool x.d.s, .int .u64 x.n.b, .bool x.n.s, .int .u64 x.w.b, .bool x.w.s], .int .i64 0] w fun e w' => e = .returned (.tuple #[.agg #[.int .u64 x.m.b, .bool x.m.s], .int .i64 0]) ∧ Below w.heap.size w w' := by
  go_enter Tryz.func67, Tryz.ntmps67
  go_wp2_with fail
  refine (known5_q 0 _ (by decide) (by decide)).mono ?_
  rintro e w1 ⟨rfl, rfl⟩
  go_wp2_with fail
  have hX : SpB ((w.alloc (.cells #[.int .u64 x.m.b, .bool x.m.s, .int .u64 x.h.b, .bool x.h.s, .int .u64 x.d.b, .bool x.d.s, .int .u64 x.n.b, .bool x.n.s, .int .u64 x.w.b, .bool x.w.s] 26)).alloc (.cells #[.int .u64 0, .bool false] 24)) w.heap.size x := blk_alloc (blk_new _ _) _
  have hR : ((w.alloc (.cells #[.int .u64 x.m.b, .bool x.m.s, .int .u64 x.h.b, .bool x.h.s, .int .u64 x.d.b, .bool x.d.s, .int .u64 x.n.b, .bool x.n.s, .int .u64 x.w.b, .bool x.w.s] 26)).alloc (.cells #[.int .u64 0, .bool false] 24)).heap[w.heap.size + 1]? = some (.cells #[.int .u64 0, .bool false] 24 (0, 0)) := blk_new2' _ _ _ (by simp)
  have hB : Below w.heap.size w ((w.alloc (.cells #[.int .u64 x.m.b, .bool x.m.s, .int .u64 x.h.b, .bool x.h.s, .int .u64 x.d.b, .bool x.d.s, .int .u64 x.n.b, .bool x.n.s, .int .u64 x.w.b, .bool x.w.s] 26)).alloc (.cells #[.int .u64 0, .bool false] 24)) := ((Below.refl _ _).alloc (Nat.le_refl _) _).alloc (by simp) _
  generalize (w.alloc (.cells #[.int .u64 x.m.b, .bool x.m.s, .int .u64 x.h.b, .bool x.h.s, .int .u64 x.d.b, .bool x.d.s, .int .u64 x.n.b, .bool x.n.s, .int .u64 x.w.b, .bool x.w.s] 26)).alloc (.cells #[.int .u64 0, .bool false] 24) = W1 at *
  refine (fields_any _ _).mono ?_
  rintro e w2 ⟨rfl, hc, hsz, hb2⟩
  have hX2 := blk_below hX hb2
  have hR2 := blk_below hR hb2
  have hB2 := hB.trans (hb2.mono hB.size)
  have ix := sfi0
  clear hX hR hB hb2 hsz
  generalize W1.heap.size = cb at *
  go_wp2_with fail
  refine (sfl0 ⟨cb, 0, none⟩ w.heap.size _ hc).mono ?_
  rintro e w3 ⟨rfl, rfl⟩
  have c0 := blk_cell hX2 0
  have c1 := blk_cell hX2 1
  have r0 := blk_cell hR2 0
  have r1 := blk_cell hR2 1
  have z0 := blk_frozen hR2 0
  have z1 := blk_frozen hR2 1
  simp only [List.getElem?_toArray, List.getElem?_cons_succ, List.getElem?_cons_zero] at c0 c1 r0 r1
  clear ix hX2 hR2 hc
  go_wp2
  refine bodyPost_ret (v := .tuple #[.agg #[.int .u64 x.m.b, .bool x.m.s], .int .i64 0]) (by simp [results, Tryz.results67, go_sem, r0, r1]) rfl ⟨rfl, ?_⟩
  exact (hB2.setCell (p := ⟨w.heap.size + 1, 0, none⟩) (by simp) _).setCell (p := ⟨w.heap.size + 1, 1, none⟩) (by simp) _

set_option maxRecDepth 100000 in
set_option maxHeartbeats 2000000 in
theorem get_1 (x : Sp) (w : World) : Calls Tryz.prog 67 #[.agg #[.int .u64 x.m.b, .bool x.m.s, .int .u64 x.h.b, .bool x.h.s, .int .u64 x.d.b, .bool x.d.s, .int .u64 x.n.b, .bool x.n.s, .int .u64 x.w.b, .bool x.w.s], .int .i64 1] w fun e w' => e = .returned (.tuple #[.agg #[.int .u64 x.h.b, .bool x.h.s], .int .i64 0]) ∧ Below w.heap.size w w' := by
  go_enter Tryz.func67, Tryz.ntmps67
  go_wp2_with fail
  refine (known5_q 1 _ (by decide) (by decide)).mono ?_
  rintro e w1 ⟨rfl, rfl⟩
  go_wp2_with fail
  have hX : SpB ((w.alloc (.cells #[.int .u64 x.m.b, .bool x.m.s, .int .u64 x.h.b, .bool x.h.s, .int .u64 x.d.b, .bool x.d.s, .int .u64 x.n.b, .bool x.n.s, .int .u64 x.w.b, .bool x.w.s] 26)).alloc (.cells #[.int .u64 0, .bool false] 24)) w.heap.size x := blk_alloc (blk_new _ _) _
  have hR : ((w.alloc (.cells #[.int .u64 x.m.b, .bool x.m.s, .int .u64 x.h.b, .bool x.h.s, .int .u64 x.d.b, .bool x.d.s, .int .u64 x.n.b, .bool x.n.s, .int .u64 x.w.b, .bool x.w.s] 26)).alloc (.cells #[.int .u64 0, .bool false] 24)).heap[w.heap.size + 1]? = some (.cells #[.int .u64 0, .bool false] 24 (0, 0)) := blk_new2' _ _ _ (by simp)
  have hB : Below w.heap.size w ((w.alloc (.cells #[.int .u64 x.m.b, .bool x.m.s, .int .u64 x.h.b, .bool x.h.s, .int .u64 x.d.b, .bool x.d.s, .int .u64 x.n.b, .bool x.n.s, .int .u64 x.w.b, .bool x.w.s] 26)).alloc (.cells #[.int .u64 0, .bool false] 24)) := ((Below.refl _ _).alloc (Nat.le_refl _) _).alloc (by simp) _
  generalize (w.alloc (.cells #[.int .u64 x.m.b, .bool x.m.s, .int .u64 x.h.b, .bool x.h.s, .int .u64 x.d.b, .bool x.d.s, .int .u64 x.n.b, .bool x.n.s, .int .u64 x.w.b, .bool x.w.s] 26)).alloc (.cells #[.int .u64 0, .bool false] 24) = W1 at *
  refine (fields_any _ _).mono ?_
  rintro e w2 ⟨rfl, hc, hsz, hb2⟩
  have hX2 := blk_below hX hb2
  have hR2 := blk_below hR hb2
  have hB2 := hB.trans (hb2.mono hB.size)
  have ix := sfi1
  clear hX hR hB hb2 hsz
  generalize W1.heap.size = cb at *
  go_wp2_with fail
  refine (sfl1 ⟨cb, 0, none⟩ w.heap.size _ hc).mono ?_
  rintro e w3 ⟨rfl, rfl⟩
  have c0 := blk_cell hX2 2
  have c1 := blk_cell hX2 3
  have r0 := blk_cell hR2 0
  have r1 := blk_cell hR2 1
  have z0 := blk_frozen hR2 0
  have z1 := blk_frozen hR2 1
  simp only [List.getElem?_toArray, List.getElem?_cons_succ, List.getElem?_cons_zero] at c0 c1 r0 r1
  clear ix hX2 hR2 hc
  go_wp2
  refine bodyPost_ret (v := .tuple #[.agg #[.int .u64 x.h.b, .bool x.h.s], .int .i64 0]) (by simp [results, Tryz.results67, go_sem, r0, r1]) rfl ⟨rfl, ?_⟩
  exact (hB2.setCell (p := ⟨w.heap.size + 1, 0, none⟩) (by simp) _).setCell (p := ⟨w.heap.size + 1, 1, none⟩) (by simp) _

set_option maxRecDepth 100000 in
set_option maxHeartbeats 2000000 in
theorem get_2 (x : Sp) (w : World) : Calls Tryz.prog 67 #[.agg #[.int .u64 x.m.b, .bool x.m.s, .int .u64 x.h.b, .bool x.h.s, .int .u64 x.d.b, .bool x.d.s, .int .u64 x.n.b, .bool x.n.s, .int .u64 x.w.b, .bool x.w.s], .int .i64 2] w fun e w' => e = .returned (.tuple #[.agg #[.int .u64 x.d.b, .bool x.d.s], .int .i64 0]) ∧ Below w.heap.size w w' := by
  go_enter Tryz.func67, Tryz.ntmps67
  go_wp2_with fail
  refine (known5_q 2 _ (by decide) (by decide)).mono ?_
  rintro e w1 ⟨rfl, rfl⟩
  go_wp2_with fail
  have hX : SpB ((w.alloc (.cells #[.int .u64 x.m.b, .bool x.m.s, .int .u64 x.h.b, .bool x.h.s, .int .u64 x.d.b, .bool x.d.s, .int .u64 x.n.b, .bool x.n.s, .int .u64 x.w.b, .bool x.w.s] 26)).alloc (.cells #[.int .u64 0, .bool false] 24)) w.heap.size x := blk_alloc (blk_new _ _) _
  have hR : ((w.alloc (.cells #[.int .u64 x.m.b, .bool x.m.s, .int .u64 x.h.b, .bool x.h.s, .int .u64 x.d.b, .bool x.d.s, .int .u64 x.n.b, .bool x.n.s, .int .u64 x.w.b, .bool x.w.s] 26)).alloc (.cells #[.int .u64 0, .bool false] 24)).heap[w.heap.size + 1]? = some (.cells #[.int .u64 0, .bool false] 24 (0, 0)) := blk_new2' _ _ _ (by simp)
  have hB : Below w.heap.size w ((w.alloc (.cells #[.int .u64 x.m.b, .bool x.m.s, .int .u64 x.h.b, .bool x.h.s, .int .u64 x.d.b, .bool x.d.s, .int .u64 x.n.b, .bool x.n.s, .int .u64 x.w.b, .bool x.w.s] 26)).alloc (.cells #[.int .u64 0, .bool false] 24)) := ((Below.refl _ _).alloc (Nat.le_refl _) _).alloc (by simp) _
  generalize (w.alloc (.cells #[.int .u64 x.m.b, .bool x.m.s, .int .u64 x.h.b, .bool x.h.s, .int .u64 x.d.b, .bool x.d.s, .int .u64 x.n.b, .bool x.n.s, .int .u64 x.w.b, .bool x.w.s] 26)).alloc (.cells #[.int .u64 0, .bool false] 24) = W1 at *
  refine (fields_any _ _).mono ?_
  rintro e w2 ⟨rfl, hc, hsz, hb2⟩
  have hX2 := blk_below hX hb2
  have hR2 := blk_below hR hb2
  have hB2 := hB.trans (hb2.mono hB.size)
  have ix := sfi2
  clear hX hR hB hb2 hsz
  generalize W1.heap.size = cb at *
  go_wp2_with fail
  refine (sfl2 ⟨cb, 0, none⟩ w.heap.size _ hc).mono ?_
  rintro e w3 ⟨rfl, rfl⟩
  have c0 := blk_cell hX2 4
  have c1 := blk_cell hX2 5
  have r0 := blk_cell hR2 0
  have r1 := blk_cell hR2 1
  have z0 := blk_frozen hR2 0
  have z1 := blk_frozen hR2 1
  simp only [List.getElem?_toArray, List.getElem?_cons_succ, List.getElem?_cons_zero] at c0 c1 r0 r1
  clear ix hX2 hR2 hc
  go_wp2
  refine bodyPost_ret (v := .tuple #[.agg #[.int .u64 x.d.b, .bool x.d.s], .int .i64 0]) (by simp [results, Tryz.results67, go_sem, r0, r1]) rfl ⟨rfl, ?_⟩
  exact (hB2.setCell (p := ⟨w.heap.size + 1, 0, none⟩) (by simp) _).setCell (p := ⟨w.heap.size + 1, 1, none⟩) (by simp) _

set_option maxRecDepth 100000 in
set_option maxHeartbeats 2000000 in
theorem get_3 (x : Sp) (w : World) : Calls Tryz.prog 67 #[.agg #[.int .u64 x.m.b, .bool x.m.s, .int .u64 x.h.b, .bool x.h.s, .int .u64 x.d.b, .bool x.d.s, .int .u64 x.n.b, .bool x.n.s, .int .u64 x.w.b, .bool x.w.s], .int .i64 3] w fun e w' => e = .returned (.tuple #[.agg #[.int .u64 x.n.b, .bool x.n.s], .int .i64 0]) ∧ Below w.heap.size w w' := by
  go_enter Tryz.func67, Tryz.ntmps67
  go_wp2_with fail
  refine (known5_q 3 _ (by decide) (by decide)).mono ?_
  rintro e w1 ⟨rfl, rfl⟩
  go_wp2_with fail
  have hX : SpB ((w.alloc (.cells #[.int .u64 x.m.b, .bool x.m.s, .int .u64 x.h.b, .bool x.h.s, .int .u64 x.d.b, .bool x.d.s, .int .u64 x.n.b, .bool x.n.s, .int .u64 x.w.b, .bool x.w.s] 26)).alloc (.cells #[.int .u64 0, .bool false] 24)) w.heap.size x := blk_alloc (blk_new _ _) _
  have hR : ((w.alloc (.cells #[.int .u64 x.m.b, .bool x.m.s, .int .u64 x.h.b, .bool x.h.s, .int .u64 x.d.b, .bool x.d.s, .int .u64 x.n.b, .bool x.n.s, .int .u64 x.w.b, .bool x.w.s] 26)).alloc (.cells #[.int .u64 0, .bool false] 24)).heap[w.heap.size + 1]? = some (.cells #[.int .u64 0, .bool false] 24 (0, 0)) := blk_new2' _ _ _ (by simp)
  have hB : Below w.heap.size w ((w.alloc (.cells #[.int .u64 x.m.b, .bool x.m.s, .int .u64 x.h.b, .bool x.h.s, .int .u64 x.d.b, .bool x.d.s, .int .u64 x.n.b, .bool x.n.s, .int .u64 x.w.b, .bool x.w.s] 26)).alloc (.cells #[.int .u64 0, .bool false] 24)) := ((Below.refl _ _).alloc (Nat.le_refl _) _).alloc (by simp) _
  generalize (w.alloc (.cells #[.int .u64 x.m.b, .bool x.m.s, .int .u64 x.h.b, .bool x.h.s, .int .u64 x.d.b, .bool x.d.s, .int .u64 x.n.b, .bool x.n.s, .int .u64 x.w.b, .bool x.w.s] 26)).alloc (.cells #[.int .u64 0, .bool false] 24) = W1 at *
  refine (fields_any _ _).mono ?_
  rintro e w2 ⟨rfl, hc, hsz, hb2⟩
  have hX2 := blk_below hX hb2
  have hR2 := blk_below hR hb2
  have hB2 := hB.trans (hb2.mono hB.size)
  have ix := sfi3
  clear hX hR hB hb2 hsz
  generalize W1.heap.size = cb at *
  go_wp2_with fail
  refine (sfl3 ⟨cb, 0, none⟩ w.heap.size _ hc).mono ?_
  rintro e w3 ⟨rfl, rfl⟩
  have c0 := blk_cell hX2 6
  have c1 := blk_cell hX2 7
  have r0 := blk_cell hR2 0
  have r1 := blk_cell hR2 1
  have z0 := blk_frozen hR2 0
  have z1 := blk_frozen hR2 1
  simp only [List.getElem?_toArray, List.getElem?_cons_succ, List.getElem?_cons_zero] at c0 c1 r0 r1
  clear ix hX2 hR2 hc
  go_wp2
  refine bodyPost_ret (v := .tuple #[.agg #[.int .u64 x.n.b, .bool x.n.s], .int .i64 0]) (by simp [results, Tryz.results67, go_sem, r0, r1]) rfl ⟨rfl, ?_⟩
  exact (hB2.setCell (p := ⟨w.heap.size + 1, 0, none⟩) (by simp) _).setCell (p := ⟨w.heap.size + 1, 1, none⟩) (by simp) _

set_option maxRecDepth 100000 in
set_option maxHeartbeats 2000000 in
theorem get_4 (x : Sp) (w : World) : Calls Tryz.prog 67 #[.agg #[.int .u64 x.m.b, .bool x.m.s, .int .u64 x.h.b, .bool x.h.s, .int .u64 x.d.b, .bool x.d.s, .int .u64 x.n.b, .bool x.n.s, .int .u64 x.w.b, .bool x.w.s], .int .i64 4] w fun e w' => e = .returned (.tuple #[.agg #[.int .u64 x.w.b, .bool x.w.s], .int .i64 0]) ∧ Below w.heap.size w w' := by
  go_enter Tryz.func67, Tryz.ntmps67
  go_wp2_with fail
  refine (known5_q 4 _ (by decide) (by decide)).mono ?_
  rintro e w1 ⟨rfl, rfl⟩
  go_wp2_with fail
  have hX : SpB ((w.alloc (.cells #[.int .u64 x.m.b, .bool x.m.s, .int .u64 x.h.b, .bool x.h.s, .int .u64 x.d.b, .bool x.d.s, .int .u64 x.n.b, .bool x.n.s, .int .u64 x.w.b, .bool x.w.s] 26)).alloc (.cells #[.int .u64 0, .bool false] 24)) w.heap.size x := blk_alloc (blk_new _ _) _
  have hR : ((w.alloc (.cells #[.int .u64 x.m.b, .bool x.m.s, .int .u64 x.h.b, .bool x.h.s, .int .u64 x.d.b, .bool x.d.s, .int .u64 x.n.b, .bool x.n.s, .int .u64 x.w.b, .bool x.w.s] 26)).alloc (.cells #[.int .u64 0, .bool false] 24)).heap[w.heap.size + 1]? = some (.cells #[.int .u64 0, .bool false] 24 (0, 0)) := blk_new2' _ _ _ (by simp)
  have hB : Below w.heap.size w ((w.alloc (.cells #[.int .u64 x.m.b, .bool x.m.s, .int .u64 x.h.b, .bool x.h.s, .int .u64 x.d.b, .bool x.d.s, .int .u64 x.n.b, .bool x.n.s, .int .u64 x.w.b, .bool x.w.s] 26)).alloc (.cells #[.int .u64 0, .bool false] 24)) := ((Below.refl _ _).alloc (Nat.le_refl _) _).alloc (by simp) _
  generalize (w.alloc (.cells #[.int .u64 x.m.b, .bool x.m.s, .int .u64 x.h.b, .bool x.h.s, .int .u64 x.d.b, .bool x.d.s, .int .u64 x.n.b, .bool x.n.s, .int .u64 x.w.b, .bool x.w.s] 26)).alloc (.cells #[.int .u64 0, .bool false] 24) = W1 at *
  refine (fields_any _ _).mono ?_
  rintro e w2 ⟨rfl, hc, hsz, hb2⟩
  have hX2 := blk_below hX hb2
  have hR2 := blk_below hR hb2
  have hB2 := hB.trans (hb2.mono hB.size)
  have ix := sfi4
  clear hX hR hB hb2 hsz
  generalize W1.heap.size = cb at *
  go_wp2_with fail
  refine (sfl4 ⟨cb, 0, none⟩ w.heap.size _ hc).mono ?_
  rintro e w3 ⟨rfl, rfl⟩
  have c0 := blk_cell hX2 8
  have c1 := blk_cell hX2 9
  have r0 := blk_cell hR2 0
  have r1 := blk_cell hR2 1
  have z0 := blk_frozen hR2 0
  have z1 := blk_frozen hR2 1
  simp only [List.getElem?_toArray, List.getElem?_cons_succ, List.getElem?_cons_zero] at c0 c1 r0 r1
  clear ix hX2 hR2 hc
  go_wp2
  refine bodyPost_ret (v := .tuple #[.agg #[.int .u64 x.w.b, .bool x.w.s], .int .i64 0]) (by simp [results, Tryz.results67, go_sem, r0, r1]) rfl ⟨rfl, ?_⟩
  exact (hB2.setCell (p := ⟨w.heap.size + 1, 0, none⟩) (by simp) _).setCell (p := ⟨w.heap.size + 1, 1, none⟩) (by simp) _

/-- The k-th field. -/
def Sp.fd (x : Sp) : Nat → Fd
  | 0 => x.m
  | 1 => x.h
  | 2 => x.d
  | 3 => x.n
  | _ => x.w
theorem get_any (x : Sp) (k : Nat) (hk : k < 5) (w : World) : Calls Tryz.prog 67 #[.agg #[.int .u64 x.m.b, .bool x.m.s, .int .u64 x.h.b, .bool x.h.s, .int .u64 x.d.b, .bool x.d.s, .int .u64 x.n.b, .bool x.n.s, .int .u64 x.w.b, .bool x.w.s], .int .i64 (k : Int)] w fun e w' => e = .returned (.tuple #[.agg #[.int .u64 (x.fd k).b, .bool (x.fd k).s], .int .i64 0]) ∧ Below w.heap.size w w' := by
  obtain rfl | rfl | rfl | rfl | rfl : k = 0 ∨ k = 1 ∨ k = 2 ∨ k = 3 ∨ k = 4 := by omega
  · exact get_0 x w
  · exact get_1 x w
  · exact get_2 x w
  · exact get_3 x w
  · exact get_4 x w
theorem fd_ok {x : Sp} (h : x.Ok) (k : Nat) : U64 (x.fd k).b := by
  unfold Sp.fd
  split
  · exact h.m
  · exact h.h
  · exact h.d
  · exact h.n
  · exact h.w
theorem fd_chk {x : Sp} (h : (spChk x).2 = 0) (k : Nat) (hk : k < 5) : chkI (x.fd k).b (x.fd k).s k = 0 := by
  unfold spChk at h
  by_cases h0 : chkI x.m.b x.m.s 0 = 0
  · rw [if_neg (by simpa using h0)] at h
    by_cases h1 : chkI x.h.b x.h.s 1 = 0
    · rw [if_neg (by simpa using h1)] at h
      by_cases h2 : chkI x.d.b x.d.s 2 = 0
      · rw [if_neg (by simpa using h2)] at h
        by_cases h3 : chkI x.n.b x.n.s 3 = 0
        · rw [if_neg (by simpa using h3)] at h
          by_cases h4 : chkI x.w.b x.w.s 4 = 0
          · obtain rfl | rfl | rfl | rfl | rfl : k = 0 ∨ k = 1 ∨ k = 2 ∨ k = 3 ∨ k = 4 := by omega
            · exact h0
            · exact h1
            · exact h2
            · exact h3
            · exact h4
          · rw [if_pos h4] at h; exact absurd h h4
        · rw [if_pos h3] at h; exact absurd h h3
      · rw [if_pos h2] at h; exact absurd h h2
    · rw [if_pos h1] at h; exact absurd h h1
  · rw [if_pos h0] at h; exact absurd h h0
theorem chk_fst {x : Sp} (h : (spChk x).2 = 0) : (spChk x).1 = 0 := by
  have h0 := fd_chk h 0 (by decide)
  have h1 := fd_chk h 1 (by decide)
  have h2 := fd_chk h 2 (by decide)
  have h3 := fd_chk h 3 (by decide)
  have h4 := fd_chk h 4 (by decide)
  simp only [Sp.fd] at h0 h1 h2 h3 h4
  unfold spChk
  rw [if_neg (fun h => h h0), if_neg (fun h => h h1), if_neg (fun h => h h2), if_neg (fun h => h h3), if_neg (fun h => h h4)]

/-- The text of the first k fields. -/
def specT (x : Sp) : Nat → List UInt8
  | 0 => []
  | k + 1 => pieceL 32 (specT x k) (fieldT (x.fd k).b.toNat (x.fd k).s)
theorem fieldT_le (B : Nat) (s : Bool) : (fieldT B s).length ≤ 384 := by
  unfold fieldT
  cases s
  · have h1 := runsT_le (runsN B) []
    have h2 := runsF_len B 64 0
    unfold runsN at *
    simp at h1 ⊢
    omega
  · simp
theorem specT_le (x : Sp) : ∀ k, (specT x k).length ≤ 385 * k
  | 0 => by simp [specT]
  | k + 1 => by
    have h1 := specT_le x k
    have h2 := pieceL_le 32 (specT x k) (fieldT (x.fd k).b.toNat (x.fd k).s)
    have h3 := fieldT_le (x.fd k).b.toNat (x.fd k).s
    show (pieceL 32 (specT x k) (fieldT (x.fd k).b.toNat (x.fd k).s)).length ≤ _
    omega
theorem fieldT_ne {B : Nat} {s : Bool} (hB : B < 18446744073709551616) (h : B ≠ 0) : fieldT B s ≠ [] := by
  unfold fieldT
  cases s
  · rw [if_neg (by decide), runsT_items]
    refine joinL_ne 44 _ ?_ ?_
    · have := runs_ne h hB
      cases hr : runsN B with
      | nil => exact absurd hr this
      | cons r l => simp [itemsL, itemsR_ne]
    · intro x hx
      simp only [itemsL, List.map_flatMap, List.mem_flatMap] at hx
      obtain ⟨r, _, hx⟩ := hx
      exact itemsR_text_ne r x hx
  · simp
theorem specT_ne {x : Sp} (h : x.Ok) (hc : (spChk x).2 = 0) : specT x 5 ≠ [] := by
  rw [show specT x 5 = pieceL 32 (specT x 4) (fieldT (x.fd 4).b.toNat (x.fd 4).s) from rfl]
  refine pieceL_ne _ _ _ (fieldT_ne ?_ ?_)
  · have := (fd_ok h 4).2; have := (fd_ok h 4).1; omega
  · have := chk_ne (fd_chk hc 4 (by decide)); have := (fd_ok h 4).1; omega

structure SsI (w : World) (xb tb : Nat) (x : Sp) (acc : List UInt8) (W : World) : Prop where
  below : Below w.heap.size w W
  x : SpB W xb x
  text : TextAt w.heap.size tb ⟨#[32]⟩ (Lib.byteCells acc) W
  tab : TabIn W
  xl : xb < tb
  tl : 1 < w.heap.size
theorem SsI.on {w : World} {xb tb : Nat} {x : Sp} {acc : List UInt8} {W W' : World} (h : SsI w xb tb x acc W) (hb : Below W.heap.size W W') : SsI w xb tb x acc W' :=
  ⟨h.below.trans (hb.mono h.below.size), blk_below h.x hb, h.text.below hb, h.tab.below (hb.block _ h.tab.lt), h.xl, h.tl⟩
theorem SsI.piece {w : World} {xb tb : Nat} {x : Sp} {acc acc' : List UInt8} {W W' : World} (h : SsI w xb tb x acc W)
    (hk : TextAt w.heap.size tb ⟨#[32]⟩ (Lib.byteCells acc') W' ∧ Below w.heap.size W W' ∧ Lib.OthersKept 5 (some tb) W W') : SsI w xb tb x acc' W' :=
  ⟨h.below.trans hk.2.1, okept_blk hk.2.2 h.x (by have := h.xl; omega) (by decide), hk.1, h.tab.below (hk.2.1.block _ h.tl), h.xl, h.tl⟩

set_option maxRecDepth 100000 in
set_option maxHeartbeats 2000000 in
theorem spec_bad (x : Sp) (w : World) (hx : x.Ok) (hc : (spChk x).2 ≠ 0) :
    Calls Tryz.prog 28 #[.agg #[.int .u64 x.m.b, .bool x.m.s, .int .u64 x.h.b, .bool x.h.s, .int .u64 x.d.b, .bool x.d.s, .int .u64 x.n.b, .bool x.n.s, .int .u64 x.w.b, .bool x.w.s]] w fun e w' => e = .returned (.tuple #[.string ⟨#[]⟩, .int .i64 (spChk x).1, .int .i64 (spChk x).2]) ∧ Below w.heap.size w w' := by
  have hC := fun w => Lib.hid (spCheck_any x w hx)
  have hne : ((spChk x).2 != 0) = true := by simpa using hc
  clear hc
  generalize spChk x = c at *
  obtain ⟨c1, c2⟩ := c
  simp only at hC hne ⊢
  go_enter Tryz.func28, Tryz.ntmps28
  go_wp2
  refine wp_scope_jumps 0 (fun a' w' => Below w.heap.size w w' ∧ ∃ (u0 u1 u2 u3 u4 u5 u8 u9 u10 u11 u12 u13 u14 u15 u16 u17 u18 u19 u20 u21 u22 u23 u24 u25 u26 u27 u28 u29 u30 u31 u32 u33 u34 u35 u36 u37 u38 u39 u40 u41 u42 : Value), a' = { tmps := #[u0, u1, u2, u3, u4, u5, .int .i64 c1, .int .i64 c2, u8, u9, u10, u11, u12, u13, u14, u15, u16, u17, u18, u19, u20, u21, u22, u23, u24, u25, u26, u27, u28, u29, u30, u31, u32, u33, u34, u35, u36, u37, u38, u39, u40, u41, u42], defers := [] }) (fun a' _ => 0) rfl ?_ ?_
  · go_wp2_with fail
    have hX : SpB ((w.alloc (.cells #[.int .u64 x.m.b, .bool x.m.s, .int .u64 x.h.b, .bool x.h.s, .int .u64 x.d.b, .bool x.d.s, .int .u64 x.n.b, .bool x.n.s, .int .u64 x.w.b, .bool x.w.s] 26)).alloc (.cells #[.pointer none, .slice none 0 0, .string ⟨#[32]⟩] 89)) w.heap.size x := blk_alloc (blk_new _ _) _
    refine (hC _).out.mono ?_
    rintro e w1 ⟨rfl, hb⟩
    have hB : Below w.heap.size w w1 := (((Below.refl _ _).alloc (Nat.le_refl _) _).alloc (by simp) _).trans (hb.mono (by simp; omega))
    clear hb hX
    go_wp2
    go_step3
    exact ⟨rfl, hB, _, _, _, _, _, _, _, _, _, _, _, _, _, _, _, _, _, _, _, _, _, _, _, _, _, _, _, _, _, _, _, _, _, _, _, _, _, _, _, _, _, rfl⟩
  · rintro a' w' ⟨hB, u0, u1, u2, u3, u4, u5, u8, u9, u10, u11, u12, u13, u14, u15, u16, u17, u18, u19, u20, u21, u22, u23, u24, u25, u26, u27, u28, u29, u30, u31, u32, u33, u34, u35, u36, u37, u38, u39, u40, u41, u42, rfl⟩
    go_wp2
    simp only [Exit.jump]
    go_ret3
    exact ⟨rfl, hB⟩

set_option maxRecDepth 100000 in
set_option maxHeartbeats 2000000 in
theorem spec_good (x : Sp) (w : World) (hx : x.Ok) (hc : (spChk x).2 = 0) (hT : TabIn w) :
    Calls Tryz.prog 28 #[.agg #[.int .u64 x.m.b, .bool x.m.s, .int .u64 x.h.b, .bool x.h.s, .int .u64 x.d.b, .bool x.d.s, .int .u64 x.n.b, .bool x.n.s, .int .u64 x.w.b, .bool x.w.s]] w fun e w' => e = .returned (.tuple #[.string ⟨(specT x 5).toArray⟩, .int .i64 0, .int .i64 0]) ∧ Below w.heap.size w w' := by
  have hC := fun w => spCheck_any x w hx
  rw [chk_fst hc, hc] at hC
  have hC := fun w => Lib.hid (hC w)
  have hcH := Lib.hid hc
  have hTH := Lib.hid hT
  have hTl := hT.lt
  clear hc hT
  go_enter Tryz.func28, Tryz.ntmps28
  go_wp2
  go_step3
  go_wp2_with fail
  have hX : SpB ((w.alloc (.cells #[.int .u64 x.m.b, .bool x.m.s, .int .u64 x.h.b, .bool x.h.s, .int .u64 x.d.b, .bool x.d.s, .int .u64 x.n.b, .bool x.n.s, .int .u64 x.w.b, .bool x.w.s] 26)).alloc (.cells #[.pointer none, .slice none 0 0, .string ⟨#[32]⟩] 89)) w.heap.size x := blk_alloc (blk_new _ _) _
  have hI0 : SsI w w.heap.size (w.heap.size + 1) x [] ((w.alloc (.cells #[.int .u64 x.m.b, .bool x.m.s, .int .u64 x.h.b, .bool x.h.s, .int .u64 x.d.b, .bool x.d.s, .int .u64 x.n.b, .bool x.n.s, .int .u64 x.w.b, .bool x.w.s] 26)).alloc (.cells #[.pointer none, .slice none 0 0, .string ⟨#[32]⟩] 89)) := by
    refine ⟨((Below.refl _ _).alloc (Nat.le_refl _) _).alloc (by simp) _, hX, ⟨by omega, _, _, blk_new2' _ _ _ (by simp), .inl rfl, World.ownsRow_nil _ _ _ _⟩, hTH.out.below ?_, by omega, hTl⟩
    rw [Below.heap_alloc _ _ _ (by simp; omega), Below.heap_alloc _ _ _ hTl]
  generalize (w.alloc (.cells #[.int .u64 x.m.b, .bool x.m.s, .int .u64 x.h.b, .bool x.h.s, .int .u64 x.d.b, .bool x.d.s, .int .u64 x.n.b, .bool x.n.s, .int .u64 x.w.b, .bool x.w.s] 26)).alloc (.cells #[.pointer none, .slice none 0 0, .string ⟨#[32]⟩] 89) = W1 at *
  refine (hC _).out.mono ?_
  rintro e w2 ⟨rfl, hb⟩
  have hI2 := hI0.on hb
  clear hb hX hI0 hC
  generalize w.heap.size + 1 = tb at *
  simp only [World.size_alloc]
  have hI2H := Lib.hid hI2
  clear hI2
  go_wp2
  go_loopw [21] (fun i wr => ∃ k : Nat, i = .int .i64 (k : Int) ∧ k ≤ 5 ∧ Hid (SsI w w.heap.size tb x (specT x k) wr)) (fun i _ => (5 - intOf i).toNat)
  case atStart => exact ⟨0, rfl, by omega, hI2H⟩
  case round =>
    obtain ⟨k, rfl, hk, hI⟩ := hrel
    clear hI2H
    by_cases hk5 : k < 5
    · have hk5' : (k : Int) < 5 := by omega
      obtain ⟨c0, c1, c2, c3, c4, c5, c6, c7, c8, c9⟩ := SpB.spIn (x := x) hI.out.x
      go_wp2_with fail
      refine (get_any x k hk5 _).mono ?_
      rintro e w3 ⟨rfl, hb⟩
      have hI3 := hI.out.on hb
      clear hI hb c0 c1 c2 c3 c4 c5 c6 c7 c8 c9
      have hI4 := hI3.on ((Below.refl _ _).alloc (Nat.le_refl _) (.cells #[.int .u64 (x.fd k).b, .bool (x.fd k).s] 24))
      have hI4 := Lib.hid hI4
      clear hI3
      have hF := show_field (x.fd k).b (x.fd k).s (k : Int) (w3.alloc (.cells #[.int .u64 (x.fd k).b, .bool (x.fd k).s] 24)) (fd_ok hx k) hI4.out.tab
      have e1 : fieldI (x.fd k).b (x.fd k).s (k : Int) = (fieldT (x.fd k).b.toNat (x.fd k).s, 0) := by unfold fieldI; rw [if_pos (fd_chk hcH.out k hk5)]
      rw [e1] at hF
      have hF := Lib.hid hF
      clear e1
      go_wp2_with fail
      refine hF.out.mono ?_
      rintro e w5 ⟨rfl, hb⟩
      have hI5 := hI4.out.on hb
      have hI5H := Lib.hid hI5
      clear hb hI4 hF
      go_wp2_with fail
      refine (piece_any w.heap.size tb 32 (specT x k) (fieldT (x.fd k).b.toNat (x.fd k).s) w5 hI5H.out.text (by have := specT_le x k; have := fieldT_le (x.fd k).b.toNat (x.fd k).s; omega) hI5H.out.below.size).mono ?_
      rintro e w6 ⟨rfl, hk6⟩
      have hI6 := Lib.hid (hI5H.out.piece (acc' := specT x (k + 1)) hk6.out)
      clear hI5 hI5H hk6
      go_wp2
      go_roundw
      case rel => exact ⟨k + 1, by go_num, by omega, hI6⟩
      case measure => simp [intOf]; omega
    · obtain rfl : k = 5 := by omega
      have hBe := hI.out.below
      have hBl := hBe.size
      have hS := Lib.hid (string_any w.heap.size tb ⟨#[32]⟩ (specT x 5) wr hI.out.text (specT_ne hx hcH.out))
      clear hI
      go_wp2_with fail
      refine hS.out.mono ?_
      rintro e w6 ⟨rfl, hk6⟩
      have hB6 := hBe.trans hk6.out.1
      clear hS hk6
      go_wp2
      try rw [Exit.noGoto_ret]
      go_ret3
      exact ⟨rfl, hB6⟩

/-- show.Spec, whatever the spec. -/
def specI (x : Sp) : List UInt8 × Int × Int := if (spChk x).2 = 0 then (specT x 5, 0, 0) else ([], (spChk x).1, (spChk x).2)
theorem show_spec (x : Sp) (w : World) (hx : x.Ok) (hT : TabIn w) :
    Calls Tryz.prog 28 #[.agg #[.int .u64 x.m.b, .bool x.m.s, .int .u64 x.h.b, .bool x.h.s, .int .u64 x.d.b, .bool x.d.s, .int .u64 x.n.b, .bool x.n.s, .int .u64 x.w.b, .bool x.w.s]] w fun e w' => e = .returned (.tuple #[.string ⟨(specI x).1.toArray⟩, .int .i64 (specI x).2.1, .int .i64 (specI x).2.2]) ∧ Below w.heap.size w w' := by
  by_cases h : (spChk x).2 = 0
  · have e : specI x = (specT x 5, 0, 0) := by unfold specI; rw [if_pos h]
    rw [e]
    exact spec_good x w hx h hT
  · have e : specI x = ([], (spChk x).1, (spChk x).2) := by unfold specI; rw [if_neg h]
    rw [e]
    exact spec_bad x w hx h

set_option maxRecDepth 100000 in
set_option maxHeartbeats 2000000 in
theorem tidy_bad (s : ByteArray) (x : Sp) (n e0 : Int) (w : World) (h : e0 ≠ 0)
    (hP : Calls Tryz.prog 34 #[.string s] w fun e w' => e = .returned (.tuple #[.agg #[.int .u64 x.m.b, .bool x.m.s, .int .u64 x.h.b, .bool x.h.s, .int .u64 x.d.b, .bool x.d.s, .int .u64 x.n.b, .bool x.n.s, .int .u64 x.w.b, .bool x.w.s], .int .i64 n, .int .i64 e0]) ∧ Below w.heap.size w w') :
    Calls Tryz.prog 30 #[.string s] w fun e w' => e = .returned (.tuple #[.string ⟨#[]⟩, .int .i64 n, .int .i64 e0]) ∧ Below w.heap.size w w' := by
  have hne : (e0 != 0) = true := by simpa using h
  have hP := Lib.hid hP
  clear h
  go_enter Tryz.func30, Tryz.ntmps30
  go_wp2_with fail
  refine hP.out.mono ?_
  rintro e w1 ⟨rfl, hb⟩
  go_wp2
  go_ret3
  exact ⟨rfl, hb.alloc hb.size _⟩

set_option maxRecDepth 100000 in
set_option maxHeartbeats 2000000 in
theorem tidy_good (s : ByteArray) (x : Sp) (n : Int) (w : World) (hx : x.Ok) (hT : TabIn w)
    (hP : Calls Tryz.prog 34 #[.string s] w fun e w' => e = .returned (.tuple #[.agg #[.int .u64 x.m.b, .bool x.m.s, .int .u64 x.h.b, .bool x.h.s, .int .u64 x.d.b, .bool x.d.s, .int .u64 x.n.b, .bool x.n.s, .int .u64 x.w.b, .bool x.w.s], .int .i64 n, .int .i64 0]) ∧ Below w.heap.size w w') :
    Calls Tryz.prog 30 #[.string s] w fun e w' => e = .returned (.tuple #[.string ⟨(specI x).1.toArray⟩, .int .i64 (specI x).2.1, .int .i64 (specI x).2.2]) ∧ Below w.heap.size w w' := by
  have hP := Lib.hid hP
  have hTl := hT.lt
  have hTH := Lib.hid hT
  clear hT
  go_enter Tryz.func30, Tryz.ntmps30
  go_wp2_with fail
  refine hP.out.mono ?_
  rintro e w1 ⟨rfl, hb⟩
  have hB : Below w.heap.size w (w1.alloc (.cells #[.int .u64 x.m.b, .bool x.m.s, .int .u64 x.h.b, .bool x.h.s, .int .u64 x.d.b, .bool x.d.s, .int .u64 x.n.b, .bool x.n.s, .int .u64 x.w.b, .bool x.w.s] 26)) := hb.alloc hb.size _
  have hS := fun W hW => Lib.hid (show_spec x W hx hW)
  have hT1 : TabIn (w1.alloc (.cells #[.int .u64 x.m.b, .bool x.m.s, .int .u64 x.h.b, .bool x.h.s, .int .u64 x.d.b, .bool x.d.s, .int .u64 x.n.b, .bool x.n.s, .int .u64 x.w.b, .bool x.w.s] 26)) := hTH.out.below (hB.block _ hTl)
  have hT1 := Lib.hid hT1
  clear hP hb
  go_wp2_with fail
  refine (hS _ hT1.out).out.mono ?_
  rintro e w2 ⟨rfl, hb⟩
  have hBE := hB.trans (hb.mono hB.size)
  clear hS hb hB hT1
  go_wp2
  go_ret3
  exact ⟨rfl, hBE⟩

end Go.Proofs.YtkdejfedigiohaaGreatDoor

/- complinelaw20.works: the fixed facts that each show law begins with. -/
namespace Go.Proofs.YtkdejfedigiohaaGreatDoor
open Go.RowKit Go.Proofs.YtkdejfedigiohaaGreatDoorW.PrintWords Go.Proofs.YtkdejfedigiohaaGreatDoorW.PrintLast Go.Proofs.YtkdejfedigiohaaGreatDoorW.PrintMore
set_option linter.unusedVariables false
set_option linter.unusedSimpArgs false


theorem gT_ok : gT.Ok := ⟨by unfold U64; decide, by unfold U64; decide, by unfold U64; decide, by unfold U64; decide, by unfold U64; decide⟩
theorem sp0_ok : sp0.Ok := ⟨by unfold U64; decide, by unfold U64; decide, by unfold U64; decide, by unfold U64; decide, by unfold U64; decide⟩
theorem stars_ok : spStars.Ok := ⟨by unfold U64; decide, by unfold U64; decide, by unfold U64; decide, by unfold U64; decide, by unfold U64; decide⟩
theorem specI_T : specI gT = ([48, 45, 50, 32, 53, 44, 54, 32, 42, 32, 49, 44, 51, 32, 48], 0, 0) := by decide +kernel
theorem specI_stars : specI spStars = ([42, 32, 42, 32, 42, 32, 42, 32, 42], 0, 0) := by decide +kernel
theorem specI_0 : specI sp0 = ([], 1, 2) := by decide +kernel
theorem fieldI_127 : fieldI 127 false 4 = ([48, 45, 54], 0) := by decide +kernel

theorem w20_tidy (w : World) (hE : Env w) (hT : TabIn w) (h8 : 8 ≤ w.heap.size) :
    Calls Tryz.prog 30 #[.string ⟨#[48, 44, 49, 44, 50, 32, 32, 53, 44, 54, 32, 42, 32, 74, 65, 78, 45, 77, 65, 82, 47, 50, 32, 55]⟩] w fun e w' => e = .returned (.tuple #[.string ⟨#[48, 45, 50, 32, 53, 44, 54, 32, 42, 32, 49, 44, 51, 32, 48]⟩, .int .i64 0, .int .i64 0]) ∧ Below w.heap.size w w' := by
  have h := tidy_good txT gT 0 w gT_ok hT (pT w hE h8)
  rw [specI_T] at h
  exact h
theorem w20_field (w : World) (hT : TabIn w) :
    Calls Tryz.prog 26 #[.agg #[.int .u64 127, .bool false], .int .i64 4] w fun e w' => e = .returned (.tuple #[.string ⟨#[48, 45, 54]⟩, .int .i64 0]) ∧ Below w.heap.size w w' := by
  have h := show_field 127 false 4 w (by unfold U64; decide) hT
  rw [fieldI_127] at h
  exact h
theorem w20_stars (w : World) (hT : TabIn w) :
    Calls Tryz.prog 28 #[.agg #[.int .u64 spStars.m.b, .bool spStars.m.s, .int .u64 spStars.h.b, .bool spStars.h.s, .int .u64 spStars.d.b, .bool spStars.d.s, .int .u64 spStars.n.b, .bool spStars.n.s, .int .u64 spStars.w.b, .bool spStars.w.s]] w fun e w' => e = .returned (.tuple #[.string ⟨#[42, 32, 42, 32, 42, 32, 42, 32, 42]⟩, .int .i64 0, .int .i64 0]) ∧ Below w.heap.size w w' := by
  have h := show_spec spStars w stars_ok hT
  rw [specI_stars] at h
  exact h
theorem w20_zero (w : World) (hT : TabIn w) :
    Calls Tryz.prog 28 #[.agg #[.int .u64 0, .bool false, .int .u64 0, .bool false, .int .u64 0, .bool false, .int .u64 0, .bool false, .int .u64 0, .bool false]] w fun e w' => e = .returned (.tuple #[.string ⟨#[]⟩, .int .i64 1, .int .i64 2]) ∧ Below w.heap.size w w' := by
  have h := show_spec sp0 w sp0_ok hT
  rw [specI_0] at h
  exact h
theorem TabIn.on {w w' : World} (h : TabIn w) (hb : Below w.heap.size w w') : TabIn w' := h.below (hb.block _ h.lt)

set_option maxRecDepth 100000 in
set_option maxHeartbeats 2000000 in
theorem works20_ok (w : World) (hE : Env w) (hT : TabIn w) (h8 : 8 ≤ w.heap.size) :
    Calls Tryz.prog 25 #[] w fun e w' => e = .returned (.bool true) ∧ Below w.heap.size w w' := by
  have hTH := Lib.hid hT
  clear hT
  go_enter Tryz.func25, Tryz.ntmps25
  go_wp2_with fail
  refine (w20_tidy w hE hTH.out h8).mono ?_
  rintro e w1 ⟨rfl, hb1⟩
  go_wp2_with fail
  refine (w20_field w1 (hTH.out.on hb1)).mono ?_
  rintro e w2 ⟨rfl, hb2⟩
  have hB2 := hb1.trans (hb2.mono hb1.size)
  clear hb1 hb2
  go_wp2_with fail
  refine (stars_any w2).mono ?_
  rintro e w3 ⟨rfl, hb3⟩
  have hB3 := hB2.trans (hb3.mono hB2.size)
  clear hB2 hb3
  go_wp2_with fail
  refine (w20_stars w3 (hTH.out.on hB3)).mono ?_
  rintro e w4 ⟨rfl, hb4⟩
  have hB4 := hB3.trans (hb4.mono hB3.size)
  clear hB3 hb4
  go_wp2_with fail
  refine (w20_zero w4 (hTH.out.on hB4)).mono ?_
  rintro e w5 ⟨rfl, hb5⟩
  have hB5 := hB4.trans (hb5.mono hB4.size)
  clear hB4 hb5
  go_wp2
  go_ret
  exact ⟨rfl, hB5⟩

end Go.Proofs.YtkdejfedigiohaaGreatDoor

/- A field's text tells the field: plain Lean. -/
namespace Go.Proofs.YtkdejfedigiohaaGreatDoor
set_option linter.unusedVariables false
set_option linter.unusedSimpArgs false

def numT (l : List UInt8) : Nat := l.foldl (fun n c => 10 * n + (c.toNat - 48)) 0
theorem numT_dg (n : Nat) (h : n < 64) : numT (dg n) = n := by
  have : ∀ n < 64, numT (dg n) = n := by decide +kernel
  exact this n h
theorem dg_not (n : Nat) (h : n < 64) : (44 : UInt8) ∉ dg n ∧ (45 : UInt8) ∉ dg n ∧ (47 : UInt8) ∉ dg n ∧ (32 : UInt8) ∉ dg n ∧ (9 : UInt8) ∉ dg n ∧ (42 : UInt8) ∉ dg n := by
  have : ∀ n < 64, (44 : UInt8) ∉ dg n ∧ (45 : UInt8) ∉ dg n ∧ (47 : UInt8) ∉ dg n ∧ (32 : UInt8) ∉ dg n ∧ (9 : UInt8) ∉ dg n ∧ (42 : UInt8) ∉ dg n := by decide +kernel
  exact this n h
/-- What an item's text says. -/
def itemOf (t : List UInt8) : Nat × Nat := match splitL 45 t with
  | [a] => (numT a, numT a)
  | [a, b] => (numT a, numT b)
  | _ => (0, 0)
theorem itemOf_one (p : Nat) (hp : p < 64) : itemOf (dg p) = (p, p) := by
  unfold itemOf
  rw [splitL_none 45 _ (dg_not p hp).2.1]
  simp only [numT_dg p hp]
theorem itemOf_two (p q : Nat) (hp : p < 64) (hq : q < 64) : itemOf (dg p ++ 45 :: dg q) = (p, q) := by
  unfold itemOf
  rw [splitL_cut 45 _ _ (dg_not p hp).2.1, splitL_none 45 _ (dg_not q hq).2.1]
  simp only [numT_dg p hp, numT_dg q hq]
theorem itemsR_of (r : Nat × Nat) (h1 : r.1 ≤ r.2) (h2 : r.2 < 64) : ∀ i ∈ itemsR r, itemOf i.1 = i.2 ∧ i.2.1 ≤ i.2.2 ∧ i.2.2 < 64 ∧ r.1 ≤ i.2.1 ∧ i.2.2 ≤ r.2 := by
  intro i hi
  unfold itemsR at hi
  split at hi
  · simp at hi; subst hi; exact ⟨itemOf_one _ (by omega), by simp, by simp; omega, by simp, by simp; omega⟩
  · split at hi
    · simp at hi
      rcases hi with rfl | rfl
      · exact ⟨itemOf_one _ (by omega), by simp, by simp; omega, by simp, by simp; omega⟩
      · exact ⟨itemOf_one _ (by omega), by simp, by simp; omega, by simp; omega, by simp⟩
    · simp at hi; subst hi; exact ⟨itemOf_two _ _ (by omega) (by omega), h1, h2, Nat.le_refl _, Nat.le_refl _⟩
theorem itemsR_cover (r : Nat × Nat) (u : Nat) (h : r.1 ≤ r.2) : (r.1 ≤ u ∧ u ≤ r.2) ↔ ∃ i ∈ itemsR r, i.2.1 ≤ u ∧ u ≤ i.2.2 := by
  unfold itemsR
  split
  · simp; omega
  · split
    · simp; omega
    · simp
theorem runs_in {B v : Nat} {l : List (Nat × Nat)} (h : IsRuns B v l) : ∀ r ∈ l, v ≤ r.1 ∧ r.1 ≤ r.2 ∧ r.2 < 64 ∧ B.testBit r.1 = true ∧ B.testBit r.2 = true := by
  induction h with
  | nil => intro r hr; cases hr
  | cons h1 h2 h3 h4 h5 h6 _ ih =>
    intro r hr
    rcases List.mem_cons.1 hr with rfl | hr
    · exact ⟨h1, h2, h3, h5 _ (Nat.le_refl _) h2, h5 _ h2 (Nat.le_refl _)⟩
    · obtain ⟨a, b, c, d, e⟩ := ih r hr
      exact ⟨by omega, b, c, d, e⟩
theorem runs_mem {B v : Nat} {l : List (Nat × Nat)} (h : IsRuns B v l) : ∀ u, v ≤ u → u < 64 → (B.testBit u = true ↔ ∃ r ∈ l, r.1 ≤ u ∧ u ≤ r.2) := by
  induction h with
  | nil h0 => intro u h1 h2; simp [h0 u h1 h2]
  | @cons v p q l h1 h2 h3 h4 h5 h6 hr ih =>
    intro u hu hu2
    rcases Nat.lt_or_ge u p with hlt | hge
    · rw [h4 u hu hlt]
      refine ⟨fun e => (by cases e), fun ⟨r, hr1, hr2, hr3⟩ => ?_⟩
      rcases List.mem_cons.1 hr1 with rfl | hr1
      · simp only at hr2; omega
      · have := (runs_in hr r hr1).1; omega
    · rcases Nat.lt_or_ge q u with hlt | hle
      · rw [ih u hlt hu2]
        refine ⟨fun ⟨r, a, b⟩ => ⟨r, by simp [a], b⟩, fun ⟨r, hr1, hr2, hr3⟩ => ?_⟩
        rcases List.mem_cons.1 hr1 with rfl | hr1
        · simp only at hr3; omega
        · exact ⟨r, hr1, hr2, hr3⟩
      · rw [h5 u hge hle]
        exact ⟨fun _ => ⟨(p, q), by simp, hge, hle⟩, fun _ => rfl⟩
theorem items_mem {B : Nat} {v : Nat} {l : List (Nat × Nat)} (h : IsRuns B v l) (u : Nat) (hv : v ≤ u) (hu : u < 64) : B.testBit u = true ↔ ∃ i ∈ itemsL l, i.2.1 ≤ u ∧ u ≤ i.2.2 := by
  rw [runs_mem h u hv hu]
  constructor
  · rintro ⟨r, hr, h1⟩
    obtain ⟨i, hi, h2⟩ := (itemsR_cover r u (runs_in h r hr).2.1).1 h1
    exact ⟨i, by unfold itemsL; exact List.mem_flatMap.2 ⟨r, hr, hi⟩, h2⟩
  · rintro ⟨i, hi, h1⟩
    obtain ⟨r, hr, hi⟩ := List.mem_flatMap.1 hi
    exact ⟨r, hr, (itemsR_cover r u (runs_in h r hr).2.1).2 ⟨i, hi, h1⟩⟩
theorem itemsL_of {B v : Nat} {l : List (Nat × Nat)} (h : IsRuns B v l) : ∀ i ∈ itemsL l, itemOf i.1 = i.2 ∧ i.2.1 ≤ i.2.2 ∧ i.2.2 < 64 ∧ v ≤ i.2.1 ∧ ∃ r ∈ l, r.1 ≤ i.2.1 ∧ i.2.2 ≤ r.2 := by
  intro i hi
  obtain ⟨r, hr, hi⟩ := List.mem_flatMap.1 hi
  obtain ⟨h1, h2, h3, _, _⟩ := runs_in h r hr
  obtain ⟨a, b, c, d, e⟩ := itemsR_of r h2 h3 i hi
  exact ⟨a, b, c, by omega, r, hr, d, e⟩
theorem itemsR_text (r : Nat × Nat) (h1 : r.1 ≤ r.2) (h2 : r.2 < 64) : ∀ i ∈ itemsR r, (44 : UInt8) ∉ i.1 ∧ (32 : UInt8) ∉ i.1 ∧ (9 : UInt8) ∉ i.1 ∧ (47 : UInt8) ∉ i.1 ∧ (42 : UInt8) ∉ i.1 ∧ i.1 ≠ [] := by
  intro i hi
  obtain ⟨a0, a1, a2, a3, a4, a5⟩ := dg_not r.1 (by omega)
  obtain ⟨b0, b1, b2, b3, b4, b5⟩ := dg_not r.2 h2
  have n1 := dg_ne r.1
  have n2 := dg_ne r.2
  unfold itemsR at hi
  split at hi
  · simp at hi; subst hi; exact ⟨a0, a3, a4, a2, a5, n1⟩
  · split at hi
    · simp at hi
      rcases hi with rfl | rfl
      · exact ⟨a0, a3, a4, a2, a5, n1⟩
      · exact ⟨b0, b3, b4, b2, b5, n2⟩
    · simp at hi; subst hi
      simp only [List.mem_append, List.mem_cons, a0, a2, a3, a4, a5, b0, b2, b3, b4, b5]
      simp
theorem itemsL_text {B v : Nat} {l : List (Nat × Nat)} (h : IsRuns B v l) : ∀ i ∈ itemsL l, (44 : UInt8) ∉ i.1 ∧ (32 : UInt8) ∉ i.1 ∧ (9 : UInt8) ∉ i.1 ∧ (47 : UInt8) ∉ i.1 ∧ (42 : UInt8) ∉ i.1 ∧ i.1 ≠ [] := by
  intro i hi
  obtain ⟨r, hr, hi⟩ := List.mem_flatMap.1 hi
  obtain ⟨h1, h2, h3, _, _⟩ := runs_in h r hr
  exact itemsR_text r h2 h3 i hi
theorem itemsL_ne {l : List (Nat × Nat)} (h : l ≠ []) : itemsL l ≠ [] := by
  cases l with
  | nil => exact absurd rfl h
  | cons r l => simp [itemsL, itemsR_ne]
/-- A field's text, cut at its commas. -/
theorem fieldT_split {B : Nat} (hB : B < 18446744073709551616) (h0 : B ≠ 0) : splitL 44 (fieldT B false) = (itemsL (runsN B)).map (·.1) := by
  unfold fieldT
  rw [if_neg (by decide), runsT_items]
  refine splitL_join 44 _ (by simp [itemsL_ne (runs_ne h0 hB)]) ?_
  intro x hx
  obtain ⟨i, hi, rfl⟩ := List.mem_map.1 hx
  exact (itemsL_text (runsN_is hB) i hi).1
theorem joinL_mem (b c : UInt8) (hc : c ≠ b) : ∀ (xs : List (List UInt8)), (∀ x ∈ xs, c ∉ x) → c ∉ joinL b xs
  | [], _ => by simp [joinL]
  | [x], h => h x (by simp)
  | x :: y :: t, h => by
    rw [joinL_cons b x (y :: t) (by simp)]
    have h1 := h x (by simp)
    have h2 := joinL_mem b c hc (y :: t) (fun z hz => h z (by simp [hz]))
    simp [h1, h2, hc]
theorem fieldT_free {B : Nat} {s : Bool} (hB : B < 18446744073709551616) : (32 : UInt8) ∉ fieldT B s ∧ (9 : UInt8) ∉ fieldT B s := by
  unfold fieldT
  cases s
  · rw [if_neg (by decide), runsT_items]
    constructor
    · refine joinL_mem 44 32 (by decide) _ ?_
      intro x hx
      obtain ⟨i, hi, rfl⟩ := List.mem_map.1 hx
      exact (itemsL_text (runsN_is hB) i hi).2.1
    · refine joinL_mem 44 9 (by decide) _ ?_
      intro x hx
      obtain ⟨i, hi, rfl⟩ := List.mem_map.1 hx
      exact (itemsL_text (runsN_is hB) i hi).2.2.1
  · simp
theorem fieldT_star {B : Nat} (hB : B < 18446744073709551616) : (42 : UInt8) ∉ fieldT B false := by
  unfold fieldT
  rw [if_neg (by decide), runsT_items]
  refine joinL_mem 44 42 (by decide) _ ?_
  intro x hx
  obtain ⟨i, hi, rfl⟩ := List.mem_map.1 hx
  exact (itemsL_text (runsN_is hB) i hi).2.2.2.2.1
theorem map_eq_of {α β : Type} {f : α → β} : ∀ {l m : List α}, l.map f = m.map f → (∀ x ∈ l, ∀ y ∈ m, f x = f y → x = y) → l = m
  | [], [], _, _ => rfl
  | [], y :: m, h, _ => by simp at h
  | x :: l, [], h, _ => by simp at h
  | x :: l, y :: m, h, hf => by
    simp only [List.map_cons, List.cons.injEq] at h
    rw [hf x (by simp) y (by simp) h.1, map_eq_of h.2 (fun a ha b hb => hf a (by simp [ha]) b (by simp [hb]))]
theorem fieldT_inj {B C : Nat} (hB : B < 18446744073709551616) (h0 : B ≠ 0) (hC : C < 18446744073709551616) (h1 : C ≠ 0) (h : fieldT B false = fieldT C false) : B = C := by
  have e : (itemsL (runsN B)).map (·.1) = (itemsL (runsN C)).map (·.1) := by rw [← fieldT_split hB h0, h, fieldT_split hC h1]
  have e2 : itemsL (runsN B) = itemsL (runsN C) := map_eq_of e fun x hx y hy he => by
    have a := (itemsL_of (runsN_is hB) x hx).1
    have b := (itemsL_of (runsN_is hC) y hy).1
    rw [he, b] at a
    exact Prod.ext he a.symm
  apply Nat.eq_of_testBit_eq
  intro u
  by_cases hu : u < 64
  · have a := items_mem (runsN_is hB) u (Nat.zero_le _) hu
    have b := items_mem (runsN_is hC) u (Nat.zero_le _) hu
    rw [e2, ← b] at a
    exact Bool.eq_iff_iff.2 a
  · rw [bit_small hB (by omega), bit_small hC (by omega)]
theorem chk_star {b kind : Int} (h : chkI b true kind = 0) : b = allB kind := by
  unfold chkI at h
  split at h
  · omega
  · split at h
    · omega
    · split at h
      · omega
      · split at h
        · omega
        · rename_i h1; simpa using h1
theorem field_inj {a b : Int} {s t : Bool} {kind : Int} (ha : U64 a) (hb : U64 b) (ca : chkI a s kind = 0) (cb : chkI b t kind = 0) (h : fieldT a.toNat s = fieldT b.toNat t) : a = b ∧ s = t := by
  obtain ⟨A, rfl⟩ := Int.eq_ofNat_of_zero_le ha.1
  obtain ⟨B, rfl⟩ := Int.eq_ofNat_of_zero_le hb.1
  have hA : A < 18446744073709551616 := by have := ha.2; omega
  have hB : B < 18446744073709551616 := by have := hb.2; omega
  have nA : A ≠ 0 := by have := chk_ne ca; omega
  have nB : B ≠ 0 := by have := chk_ne cb; omega
  simp only [Int.toNat_natCast] at h
  cases s <;> cases t
  · rw [fieldT_inj hA nA hB nB h]; exact ⟨rfl, rfl⟩
  · have := fieldT_star hA; rw [h] at this; simp [fieldT] at this
  · have := fieldT_star hB; rw [← h] at this; simp [fieldT] at this
  · rw [chk_star ca, chk_star cb]; exact ⟨rfl, rfl⟩

theorem specT_join (x : Sp) : ∀ k, (∀ j < k, fieldT (x.fd j).b.toNat (x.fd j).s ≠ []) → specT x k = joinL 32 ((List.range k).map fun j => fieldT (x.fd j).b.toNat (x.fd j).s)
  | 0, _ => rfl
  | k + 1, h => by
    have ih := specT_join x k (fun j hj => h j (by omega))
    show pieceL 32 (specT x k) _ = _
    rw [ih, List.range_succ, List.map_append]
    unfold pieceL
    by_cases hk : k = 0
    · subst hk; rw [if_pos (show joinL 32 _ = [] from rfl)]; rfl
    · rw [if_neg (joinL_ne 32 _ (by simp [hk]) (fun y hy => by
        obtain ⟨j, hj, rfl⟩ := List.mem_map.1 hy
        exact h j (by have := List.mem_range.1 hj; omega))), joinL_app 32 _ _ (by simp [hk]) (by simp)]
      rfl
theorem fd_ne {x : Sp} (h : x.Ok) (hc : (spChk x).2 = 0) (k : Nat) (hk : k < 5) : fieldT (x.fd k).b.toNat (x.fd k).s ≠ [] := by
  have a := fd_ok h k
  have b := chk_ne (fd_chk hc k hk)
  exact fieldT_ne (by have := a.2; have := a.1; omega) (by have := a.1; omega)
/-- A spec's text, cut at its blanks. -/
theorem specT_split {x : Sp} (h : x.Ok) (hc : (spChk x).2 = 0) : splitL 32 (specT x 5) = (List.range 5).map fun j => fieldT (x.fd j).b.toNat (x.fd j).s := by
  rw [specT_join x 5 (fun j hj => fd_ne h hc j hj)]
  refine splitL_join 32 _ (by simp) ?_
  intro y hy
  obtain ⟨j, hj, rfl⟩ := List.mem_map.1 hy
  exact (fieldT_free (by have := (fd_ok h j).2; have := (fd_ok h j).1; omega)).1
theorem spec_inj {x y : Sp} (hx : x.Ok) (hy : y.Ok) (cx : (spChk x).2 = 0) (cy : (spChk y).2 = 0) (h : specT x 5 = specT y 5) : x = y := by
  have e := (specT_split hx cx).symm.trans ((congrArg (splitL 32) h).trans (specT_split hy cy))
  have hk : ∀ k, k < 5 → (x.fd k).b = (y.fd k).b ∧ (x.fd k).s = (y.fd k).s := fun k hk => by
    have e1 := congrArg (fun l => l[k]?) e
    simp only [List.getElem?_map, List.getElem?_range hk, Option.map_some, Option.some.injEq] at e1
    exact field_inj (fd_ok hx k) (fd_ok hy k) (fd_chk cx k hk) (fd_chk cy k hk) e1
  have h0 := hk 0 (by decide)
  have h1 := hk 1 (by decide)
  have h2 := hk 2 (by decide)
  have h3 := hk 3 (by decide)
  have h4 := hk 4 (by decide)
  obtain ⟨⟨_, _⟩, ⟨_, _⟩, ⟨_, _⟩, ⟨_, _⟩, ⟨_, _⟩⟩ := x
  obtain ⟨⟨_, _⟩, ⟨_, _⟩, ⟨_, _⟩, ⟨_, _⟩, ⟨_, _⟩⟩ := y
  simp only [Sp.fd] at h0 h1 h2 h3 h4
  obtain ⟨rfl, rfl⟩ := h0
  obtain ⟨rfl, rfl⟩ := h1
  obtain ⟨rfl, rfl⟩ := h2
  obtain ⟨rfl, rfl⟩ := h3
  obtain ⟨rfl, rfl⟩ := h4
  rfl

end Go.Proofs.YtkdejfedigiohaaGreatDoor

/- complinelaw20.ShowApart: the walk. -/
namespace Go.Proofs.YtkdejfedigiohaaGreatDoor
open Go.RowKit Go.Proofs.YtkdejfedigiohaaGreatDoorW.PrintWords Go.Proofs.YtkdejfedigiohaaGreatDoorW.PrintLast Go.Proofs.YtkdejfedigiohaaGreatDoorW.PrintMore
set_option linter.unusedVariables false
set_option linter.unusedSimpArgs false

open Go.Proofs.YtkdejfedigiohaaGreatDoor.PR

def spSame (x y : Sp) : Bool := (x.m.b == y.m.b && (x.m.s == y.m.s)) && ((x.h.b == y.h.b && (x.h.s == y.h.s)) && ((x.d.b == y.d.b && (x.d.s == y.d.s)) && ((x.n.b == y.n.b && (x.n.s == y.n.s)) && ((x.w.b == y.w.b && (x.w.s == y.w.s))))))
theorem spSame_iff (x y : Sp) : spSame x y = true ↔ x = y := by
  obtain ⟨⟨_, _⟩, ⟨_, _⟩, ⟨_, _⟩, ⟨_, _⟩, ⟨_, _⟩⟩ := x
  obtain ⟨⟨_, _⟩, ⟨_, _⟩, ⟨_, _⟩, ⟨_, _⟩, ⟨_, _⟩⟩ := y
  simp [spSame, and_assoc]
theorem same_any (x y : Sp) (w : World) : Calls Tryz.prog 35 #[.agg #[.int .u64 x.m.b, .bool x.m.s, .int .u64 x.h.b, .bool x.h.s, .int .u64 x.d.b, .bool x.d.s, .int .u64 x.n.b, .bool x.n.s, .int .u64 x.w.b, .bool x.w.s], .agg #[.int .u64 y.m.b, .bool y.m.s, .int .u64 y.h.b, .bool y.h.s, .int .u64 y.d.b, .bool y.d.s, .int .u64 y.n.b, .bool y.n.s, .int .u64 y.w.b, .bool y.w.s]] w fun e w' => e = .returned (.bool (spSame x y)) ∧ Below w.heap.size w w' :=
  spec_Same.calls _ _ _ _ _ _ _ _ _ _ _ _ _ _ _ _ _ _ _ _ _ w rfl

/-- Two specs' boxes, and the table. -/
structure TwoI (w : World) (xb yb : Nat) (x y : Sp) (W : World) : Prop where
  below : Below w.heap.size w W
  x : SpB W xb x
  y : SpB W yb y
  tab : TabIn W
theorem TwoI.on {w : World} {xb yb : Nat} {x y : Sp} {W W' : World} (h : TwoI w xb yb x y W) (hb : Below W.heap.size W W') : TwoI w xb yb x y W' :=
  ⟨h.below.trans (hb.mono h.below.size), blk_below h.x hb, blk_below h.y hb, h.tab.on hb⟩

set_option maxRecDepth 100000 in
set_option maxHeartbeats 2000000 in
theorem apart_walk (x y : Sp) (w : World) (hE : Env w) (hT : TabIn w) (h8 : 8 ≤ w.heap.size) (s t : List UInt8) (n m e f : Int) (q : Bool)
    (h1 : ∀ W, TabIn W → Calls Tryz.prog 28 #[.agg #[.int .u64 x.m.b, .bool x.m.s, .int .u64 x.h.b, .bool x.h.s, .int .u64 x.d.b, .bool x.d.s, .int .u64 x.n.b, .bool x.n.s, .int .u64 x.w.b, .bool x.w.s]] W fun r w' => r = .returned (.tuple #[.string ⟨s.toArray⟩, .int .i64 n, .int .i64 e]) ∧ Below W.heap.size W w')
    (h2 : ∀ W, TabIn W → Calls Tryz.prog 28 #[.agg #[.int .u64 y.m.b, .bool y.m.s, .int .u64 y.h.b, .bool y.h.s, .int .u64 y.d.b, .bool y.d.s, .int .u64 y.n.b, .bool y.n.s, .int .u64 y.w.b, .bool y.w.s]] W fun r w' => r = .returned (.tuple #[.string ⟨t.toArray⟩, .int .i64 m, .int .i64 f]) ∧ Below W.heap.size W w')
    (h3 : ∀ W, Calls Tryz.prog 35 #[.agg #[.int .u64 x.m.b, .bool x.m.s, .int .u64 x.h.b, .bool x.h.s, .int .u64 x.d.b, .bool x.d.s, .int .u64 x.n.b, .bool x.n.s, .int .u64 x.w.b, .bool x.w.s], .agg #[.int .u64 y.m.b, .bool y.m.s, .int .u64 y.h.b, .bool y.h.s, .int .u64 y.d.b, .bool y.d.s, .int .u64 y.n.b, .bool y.n.s, .int .u64 y.w.b, .bool y.w.s]] W fun r w' => r = .returned (.bool q) ∧ Below W.heap.size W w')
    (hcase : e ≠ 0 ∨ (e = 0 ∧ f ≠ 0) ∨ (e = 0 ∧ f = 0 ∧ (q = true ↔ s = t))) :
    Calls Tryz.prog 13 #[.agg #[.int .u64 x.m.b, .bool x.m.s, .int .u64 x.h.b, .bool x.h.s, .int .u64 x.d.b, .bool x.d.s, .int .u64 x.n.b, .bool x.n.s, .int .u64 x.w.b, .bool x.w.s], .agg #[.int .u64 y.m.b, .bool y.m.s, .int .u64 y.h.b, .bool y.h.s, .int .u64 y.d.b, .bool y.d.s, .int .u64 y.n.b, .bool y.n.s, .int .u64 y.w.b, .bool y.w.s]] w fun e w' => e = .returned (.bool true) ∧ Below w.heap.size w w' := by
  have h1 := fun W hW => Lib.hid (h1 W hW)
  have h2 := fun W hW => Lib.hid (h2 W hW)
  have h3 := fun W => Lib.hid (h3 W)
  have hcH := Lib.hid hcase
  have hTl := hT.lt
  have hTH := Lib.hid hT
  have hEH := Lib.hid hE
  clear hcase hT hE
  go_enter Tryz.func13, Tryz.ntmps13
  go_wp2_with fail
  have hI0 : TwoI w w.heap.size (w.heap.size + 1) x y ((w.alloc (.cells #[.int .u64 x.m.b, .bool x.m.s, .int .u64 x.h.b, .bool x.h.s, .int .u64 x.d.b, .bool x.d.s, .int .u64 x.n.b, .bool x.n.s, .int .u64 x.w.b, .bool x.w.s] 26)).alloc (.cells #[.int .u64 y.m.b, .bool y.m.s, .int .u64 y.h.b, .bool y.h.s, .int .u64 y.d.b, .bool y.d.s, .int .u64 y.n.b, .bool y.n.s, .int .u64 y.w.b, .bool y.w.s] 26)) := by
    refine ⟨((Below.refl _ _).alloc (Nat.le_refl _) _).alloc (by simp) _, blk_alloc (blk_new _ _) _, blk_new2' _ _ _ (by simp), hTH.out.below ?_⟩
    rw [Below.heap_alloc _ _ _ (by simp; omega), Below.heap_alloc _ _ _ hTl]
  have hE0 := hEH.out.below hI0.below
  generalize (w.alloc (.cells #[.int .u64 x.m.b, .bool x.m.s, .int .u64 x.h.b, .bool x.h.s, .int .u64 x.d.b, .bool x.d.s, .int .u64 x.n.b, .bool x.n.s, .int .u64 x.w.b, .bool x.w.s] 26)).alloc (.cells #[.int .u64 y.m.b, .bool y.m.s, .int .u64 y.h.b, .bool y.h.s, .int .u64 y.d.b, .bool y.d.s, .int .u64 y.n.b, .bool y.n.s, .int .u64 y.w.b, .bool y.w.s] 26) = W1 at *
  refine (works20_ok W1 hE0 hI0.tab (Nat.le_trans h8 hI0.below.size)).mono ?_
  rintro e w1 ⟨rfl, hb⟩
  have hI1 := hI0.on hb
  clear hb hI0 hE0
  obtain ⟨c0, c1, c2, c3, c4, c5, c6, c7, c8, c9⟩ := SpB.spIn (x := x) hI1.x
  simp only [World.size_alloc]
  generalize w.heap.size + 1 = yb at *
  go_wp2_with fail
  refine (h1 _ hI1.tab).out.mono ?_
  rintro e w2 ⟨rfl, hb⟩
  have hI2 := hI1.on hb
  clear hb hI1 c0 c1 c2 c3 c4 c5 c6 c7 c8 c9 h1
  obtain ⟨c0, c1, c2, c3, c4, c5, c6, c7, c8, c9⟩ := SpB.spIn (x := y) hI2.y
  go_wp2_with fail
  refine (h2 _ hI2.tab).out.mono ?_
  rintro e w3 ⟨rfl, hb⟩
  have hI3 := hI2.on hb
  clear hb hI2 c0 c1 c2 c3 c4 c5 c6 c7 c8 c9 h2
  have hB3 := hI3.below
  have hc := hcH.out
  rcases hc with hc | ⟨rfl, hc⟩ | ⟨rfl, rfl, hq⟩
  · have b : (e != 0) = true := by simpa using hc
    clear hc hI3
    go_wp2
    go_ret
    exact ⟨rfl, hB3⟩
  · have b : (f != 0) = true := by simpa using hc
    clear hc hI3
    go_wp2
    go_ret
    exact ⟨rfl, hB3⟩
  · obtain ⟨c0, c1, c2, c3, c4, c5, c6, c7, c8, c9⟩ := SpB.spIn (x := x) hI3.x
    obtain ⟨d0, d1, d2, d3, d4, d5, d6, d7, d8, d9⟩ := SpB.spIn (x := y) hI3.y
    have hqH := Lib.hid hq
    clear hq hcH
    go_wp2_with fail
    refine (h3 _).out.mono ?_
    rintro e w4 ⟨rfl, hb⟩
    have hB4 := hB3.trans (hb.mono hB3.size)
    clear hb hI3 c0 c1 c2 c3 c4 c5 c6 c7 c8 c9 d0 d1 d2 d3 d4 d5 d6 d7 d8 d9 h3
    go_wp2
    go_ret
    exact ⟨ret_bool (by rw [beq_iff_eq, Bool.eq_iff_iff, beq_iff_eq, hqH.out]), hB4⟩

theorem apart_any (x y : Sp) (w : World) (hx : x.Ok) (hy : y.Ok) (hE : Env w) (hT : TabIn w) (h8 : 8 ≤ w.heap.size) :
    Calls Tryz.prog 13 #[.agg #[.int .u64 x.m.b, .bool x.m.s, .int .u64 x.h.b, .bool x.h.s, .int .u64 x.d.b, .bool x.d.s, .int .u64 x.n.b, .bool x.n.s, .int .u64 x.w.b, .bool x.w.s], .agg #[.int .u64 y.m.b, .bool y.m.s, .int .u64 y.h.b, .bool y.h.s, .int .u64 y.d.b, .bool y.d.s, .int .u64 y.n.b, .bool y.n.s, .int .u64 y.w.b, .bool y.w.s]] w fun e w' => e = .returned (.bool true) ∧ Below w.heap.size w w' := by
  refine apart_walk x y w hE hT h8 _ _ _ _ _ _ _ (fun W hW => show_spec x W hx hW) (fun W hW => show_spec y W hy hW) (fun W => same_any x y W) ?_
  unfold specI
  by_cases cx : (spChk x).2 = 0
  · rw [if_pos cx]
    by_cases cy : (spChk y).2 = 0
    · rw [if_pos cy]
      refine .inr (.inr ⟨rfl, rfl, ?_⟩)
      rw [spSame_iff]
      exact ⟨fun h => by rw [h], fun h => spec_inj hx hy cx cy h⟩
    · rw [if_neg cy]
      exact .inr (.inl ⟨rfl, cy⟩)
  · rw [if_neg cx]
    exact .inl cx

end Go.Proofs.YtkdejfedigiohaaGreatDoor
