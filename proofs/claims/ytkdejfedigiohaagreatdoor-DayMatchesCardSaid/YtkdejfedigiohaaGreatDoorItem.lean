/- An item of a field's text: how it is cut, and what its ends are. -/
import Derived.Test.YtkdejfedigiohaaGreatDoorLex2
import Derived.Test.YtkdejfedigiohaaGreatDoorShelf
namespace Go.Proofs.YtkdejfedigiohaaGreatDoor
open Go.RowKit Go.Proofs.YtkdejfedigiohaaGreatDoorW.PrintWords Go.Proofs.YtkdejfedigiohaaGreatDoorW.PrintLast Go.Proofs.YtkdejfedigiohaaGreatDoorW.PrintMore
set_option linter.unusedVariables false
set_option linter.unusedSimpArgs false


/-- What was there is as it was, but for block b. -/
structure KX (b : Nat) (w w' : World) : Prop where
  os : w'.os = w.os
  tape : w'.tape = w.tape
  output : w'.output = w.output
  size : w.heap.size ≤ w'.heap.size
  block : ∀ k, k < w.heap.size → k ≠ b → w'.heap[k]? = w.heap[k]?
theorem KX.refl (b : Nat) (w : World) : KX b w w := ⟨rfl, rfl, rfl, Nat.le_refl _, fun _ _ _ => rfl⟩
theorem KX.trans {b : Nat} {u v w : World} (h : KX b u v) (k : KX b v w) : KX b u w :=
  ⟨k.os.trans h.os, k.tape.trans h.tape, k.output.trans h.output, Nat.le_trans h.size k.size, fun i hi hb => (k.block i (Nat.lt_of_lt_of_le hi h.size) hb).trans (h.block i hi hb)⟩
theorem KX.of {b : Nat} {w w' : World} (h : Below w.heap.size w w') : KX b w w' := ⟨h.os, h.tape, h.output, h.size, fun k hk _ => h.block k hk⟩
theorem KX.set {b : Nat} (w : World) (i : Nat) (u : Value) : KX b w (w.setCell ⟨b, i, none⟩ u) := ⟨rfl, rfl, rfl, by simp [World.setCell], fun k _ hb => Below.heap_setCell _ _ _ _ hb⟩
theorem KX.alloc {b : Nat} (w : World) (o : Obj) : KX b w (w.alloc o) := .of ((Below.refl _ _).alloc (Nat.le_refl _) _)
theorem KX.blk {b g : Nat} {w w' : World} {o : Obj} (h : KX b w w') (hg : w.heap[g]? = some o) (hne : g ≠ b) : w'.heap[g]? = some o := (h.block g (blk_lt hg) hne).trans hg
theorem KX.below {b B : Nat} {w w' : World} (h : KX b w w') (h1 : B ≤ b) (h2 : B ≤ w.heap.size) : Below B w w' := ⟨h.os, h.tape, h.output, h.size, fun k hk => h.block k (by omega) (by omega)⟩

/-- What the walks want of package-level variables. -/
structure Env (w : World) : Prop where
  maxLen : ∃ m, w.cell? ⟨3, 0, none⟩ = some (.int .i64 m)
theorem Env.keep {w w' : World} (h : Env w) (hk : ∀ k, k < w.heap.size → k < 8 → w'.heap[k]? = w.heap[k]?) : Env w' := by
  obtain ⟨m, hm⟩ := h.maxLen
  refine ⟨⟨m, ?_⟩⟩
  rw [← hm]
  exact World.cell?_of_block (w := w) (hk _ (World.block_lt_of_cell? _ _ hm) (by decide))
theorem Env.below {w w' : World} (h : Env w) (hb : Below w.heap.size w w') : Env w' := h.keep fun k hk _ => hb.block k hk
theorem Env.kx {b : Nat} {w w' : World} (h : Env w) (hk : KX b w w') (hb : 8 ≤ b) : Env w' := h.keep fun k hk' h8 => hk.block k hk' (by omega)

theorem ite_bytes (s : ByteArray) : (⟨s.data.toList.toArray⟩ : ByteArray) = s := by cases s; simp

/-- An item's box. -/
def ItB (W : World) (b : Nat) (t a be : ByteArray) (cut : Bool) (ends : Value) (kind lo hi st : Int) : Prop :=
  W.heap[b]? = some (.cells #[.string t, .string a, .string be, .bool cut, ends, .int .i64 kind, .int .i64 lo, .int .i64 hi, .int .i64 st] 110 (0, 0))
/-- Its nine cells, that may be written. -/
def ItC (W : World) (b : Nat) (t a be : ByteArray) (cut : Bool) (ends : Value) (kind lo hi st : Int) : Prop :=
  (W.cell? ⟨b, 0, none⟩ = some (.string t) ∧ W.cell? ⟨b, 1, none⟩ = some (.string a) ∧ W.cell? ⟨b, 2, none⟩ = some (.string be) ∧ W.cell? ⟨b, 3, none⟩ = some (.bool cut) ∧ W.cell? ⟨b, 4, none⟩ = some ends
  ∧ W.cell? ⟨b, 5, none⟩ = some (.int .i64 kind) ∧ W.cell? ⟨b, 6, none⟩ = some (.int .i64 lo) ∧ W.cell? ⟨b, 7, none⟩ = some (.int .i64 hi) ∧ W.cell? ⟨b, 8, none⟩ = some (.int .i64 st))
  ∧ (W.frozen? ⟨b, 0, none⟩ = false ∧ W.frozen? ⟨b, 1, none⟩ = false ∧ W.frozen? ⟨b, 2, none⟩ = false ∧ W.frozen? ⟨b, 3, none⟩ = false ∧ W.frozen? ⟨b, 4, none⟩ = false ∧ W.frozen? ⟨b, 5, none⟩ = false
  ∧ W.frozen? ⟨b, 6, none⟩ = false ∧ W.frozen? ⟨b, 7, none⟩ = false ∧ W.frozen? ⟨b, 8, none⟩ = false)
theorem ItB.cells {W : World} {b : Nat} {t a be : ByteArray} {cut : Bool} {ends : Value} {kind lo hi st : Int} (h : ItB W b t a be cut ends kind lo hi st) : ItC W b t a be cut ends kind lo hi st := by
  have hc := fun i => blk_cell h i
  have hf := fun i => blk_frozen h i
  exact ⟨⟨hc 0, hc 1, hc 2, hc 3, hc 4, hc 5, hc 6, hc 7, hc 8⟩, hf 0, hf 1, hf 2, hf 3, hf 4, hf 5, hf 6, hf 7, hf 8⟩

set_option maxRecDepth 100000 in
set_option maxHeartbeats 2000000 in
theorem split_ok (b n : Nat) (row : Array Value) (t a be : ByteArray) (cut : Bool) (kind : Int) (W : World) (hE : Env W) (h8 : 8 ≤ b) (hI : ItB W b t ⟨#[]⟩ ⟨#[]⟩ false (.slice none 0 0) kind 0 0 0) (hs : t.size < 4294967281)
    (hcut : Lib.cut t.data.toList [47] = (a.data.toList, be.data.toList, cut)) (ha : a.size < 4294967281) (hbe : be.size < 4294967281) (hno : Lib.contains be.data.toList [47] = false)
    (hnn : Lib.countB a ⟨#[45]⟩ + 1 = n) (hrow : ((Lib.splitB ⟨#[45]⟩ 0 (Lib.countB a ⟨#[45]⟩) a).map Value.string).toArray = row)
    (hn : n ≤ 2) (hform : cut = true → a.toList ≠ [42] → n = 2) :
    Calls Tryz.prog 73 #[.pointer (some ⟨b, 0, none⟩)] W fun e w' => e = .returned .nilIface ∧ ∃ g, W.heap.size ≤ g ∧ KX b W w'
      ∧ ItB w' b t a be cut (.slice (some ⟨g, 0, none⟩) n n) kind 0 0 0
      ∧ w'.heap[g]? = some (.cells row 9 (0, 0)) := by
  have hlt := blk_lt hI
  obtain ⟨m, hm⟩ := hE.maxLen
  have hE0 := Lib.hid hE
  have hI0 := Lib.hid hI
  have hm0 := Lib.hid hm
  obtain ⟨⟨c0, c1, c2, c3, c4, c5, c6, c7, c8⟩, f0, f1, f2, f3, f4, f5, f6, f7, f8⟩ := hI.cells
  have hc := fun w => fun k => Lib.hid (Tryz.strings_Cut t ⟨#[47]⟩ m w hs k)
  simp only [hcut, ite_bytes] at hc
  have hnn0 := Lib.hid hnn
  have hrow0 := Lib.hid hrow
  clear hI hm hcut hnn hrow
  go_enter Tryz.func73, Tryz.ntmps73
  go_wp2_with fail
  refine (hc _ hm0.out).out.mono ?_
  rintro e w1 ⟨rfl, q, rfl⟩
  go_wp2_with fail
  generalize hW : (((W.drewN q).setCell ⟨b, 1, none⟩ (.string a)).setCell ⟨b, 2, none⟩ (.string be)).setCell ⟨b, 3, none⟩ (.bool cut) = W2
  have hK2 : KX b W W2 := by
    subst hW
    exact (((KX.of ((Below.refl W.heap.size W).drewN q)).trans (KX.set _ 1 _)).trans (KX.set _ 2 _)).trans (KX.set _ 3 _)
  have hI2 : ItB W2 b t a be cut (.slice none 0 0) kind 0 0 0 := by
    subst hW
    exact blk_put (blk_put (blk_put (blk_drewN hI0.out q) 1 _ rfl) 2 _ rfl) 3 _ rfl
  have hE2 := hE0.out.kx hK2 h8
  clear hW c0 c1 c2 c3 c4 c5 c6 c7 c8 f0 f1 f2 f3 f4 f5 f6 f7 f8
  obtain ⟨m2, hm2⟩ := hE2.maxLen
  have hsp := Tryz.strings_Split a ⟨#[45]⟩ m2 W2 ha hm2 (by decide)
  rw [hnn0.out, hrow0.out] at hsp
  refine hsp.mono ?_
  clear hsp
  rintro e w1 ⟨rfl, rfl⟩
  have hI3 : ItB (W2.alloc (.cells row 9)) b t a be cut (.slice none 0 0) kind 0 0 0 := blk_alloc hI2 _
  have hg3 : (W2.alloc (.cells row 9)).heap[W2.heap.size]? = some (.cells row 9 (0, 0)) := blk_new _ _
  have hK3 : KX b W (W2.alloc (.cells row 9)) := hK2.trans (KX.alloc _ _)
  have hbne : W2.heap.size ≠ b := by have := hK2.size; omega
  have hle := hK2.size
  generalize W2.alloc (.cells row 9) = W3 at *
  obtain ⟨⟨c0, c1, c2, c3, c4, c5, c6, c7, c8⟩, f0, f1, f2, f3, f4, f5, f6, f7, f8⟩ := hI3.cells
  go_wp2_with fail
  generalize hW : W3.setCell ⟨b, 4, none⟩ (.slice (some ⟨W2.heap.size, 0, none⟩) n n) = W4
  have hK4 : KX b W W4 := by subst hW; exact hK3.trans (KX.set _ 4 _)
  have hI4 : ItB W4 b t a be cut (.slice (some ⟨W2.heap.size, 0, none⟩) n n) kind 0 0 0 := by subst hW; exact blk_put hI3 4 _ rfl
  have hg4 : W4.heap[W2.heap.size]? = some (.cells row 9 (0, 0)) := by subst hW; exact blk_far hg3 hbne _
  have hE4 := hE0.out.kx hK4 h8
  clear hW c0 c1 c2 c3 c4 c5 c6 c7 c8 f0 f1 f2 f3 f4 f5 f6 f7 f8 hm2
  obtain ⟨m4, hm4⟩ := hE4.maxLen
  have hct := Tryz.strings_Contains be ⟨#[47]⟩ m4 W4 hbe hm4
  rw [hno] at hct
  refine hct.mono ?_
  clear hct hno hm4
  rintro e w1 ⟨rfl, rfl⟩
  obtain ⟨⟨c0, c1, c2, c3, c4, c5, c6, c7, c8⟩, f0, f1, f2, f3, f4, f5, f6, f7, f8⟩ := hI4.cells
  have hn2 : (n : Int) ≤ 2 := by omega
  have hI4 := Lib.hid hI4
  have hg4 := Lib.hid hg4
  cases cut
  · go_wp2
    go_ret
    exact ⟨rfl, W2.heap.size, hle, hK4, hI4.out, hg4.out⟩
  · by_cases hst : a.toList = [42]
    · have hst' : (a.toList == [42]) = true := by simpa using hst
      have hst2 : (a.toList != [42]) = false := by simp [hst]
      clear hst hform
      go_wp2
      go_ret
      exact ⟨rfl, W2.heap.size, hle, hK4, hI4.out, hg4.out⟩
    · have hn3 : (2 : Int) ≤ (n : Int) := by have := hform rfl hst; omega
      have hst' : (a.toList == [42]) = false := by simpa using hst
      have hst2 : (a.toList != [42]) = true := by simpa using hst
      clear hst hform
      go_wp2
      go_ret
      exact ⟨rfl, W2.heap.size, hle, hK4, hI4.out, hg4.out⟩

end Go.Proofs.YtkdejfedigiohaaGreatDoor
