/- What is shown of a field is in order, as a field's text, and says the same. complinelaw20.ShowBack: the walk. The words of a text of ASCII, as a plain function of its bytes. What is shown of a spec is parsed back. complinelaw20.ShowTurns: the walk. -/
import Derived.Test.YtkdejfedigiohaaGreatDoorQD
import Derived.Test.YtkdejfedigiohaaGreatDoorQC
import Derived.Test.YtkdejfedigiohaaGreatDoorQB
/- What is shown of a field is in order, as a field's text, and says the same. -/
namespace Go.Proofs.YtkdejfedigiohaaGreatDoor
set_option linter.unusedVariables false
set_option linter.unusedSimpArgs false
open Go.RowKit

theorem allB_lt (kind : Int) : 0 ≤ allB kind ∧ allB kind < 18446744073709551616 := by unfold allB; repeat' split <;> omega
theorem allB_bit (kind : Int) (h0 : 0 ≤ kind) (h1 : kind ≤ 4) (u : Nat) : (allB kind).toNat.testBit u = true ↔ loI kind ≤ (u : Int) ∧ (u : Int) ≤ hiI kind := by
  have key : ∀ k ∈ [(0 : Int), 1, 2, 3, 4], ∀ u < 64, ((allB k).toNat.testBit u = true ↔ loI k ≤ (u : Int) ∧ (u : Int) ≤ hiI k) := by decide +kernel
  by_cases hu : u < 64
  · exact key kind (by simp; omega) u hu
  · rw [bit_small (by have := allB_lt kind; omega) (by omega)]
    have : hiI kind ≤ 59 := by unfold hiI; repeat' split <;> omega
    constructor
    · intro h; cases h
    · intro h; omega
theorem chk_in {B : Nat} {s : Bool} {kind : Int} (hB : B < 18446744073709551616) (h : chkI (B : Int) s kind = 0) : 0 ≤ kind ∧ kind ≤ 4 ∧ ∀ u, B.testBit u = true → loI kind ≤ (u : Int) ∧ (u : Int) ≤ hiI kind := by
  unfold chkI at h
  split at h
  · omega
  · rename_i hk
    have h0 : 0 ≤ kind := by omega
    have h1 : kind ≤ 4 := by omega
    refine ⟨h0, h1, fun u hu => ?_⟩
    split at h
    · omega
    · split at h
      · omega
      · rename_i hm
        simp only [ne_eq, Decidable.not_not, Int.toNat_natCast] at hm
        refine (allB_bit kind h0 h1 u).1 ?_
        have e := congrArg (fun n => n.testBit u) hm
        simp only [Nat.testBit_and, hu, Bool.true_and, Nat.zero_testBit] at e
        have hu64 : u < 64 := by
          apply Nat.lt_of_not_le
          intro h64
          rw [bit_small hB h64] at hu; cases hu
        have e2 := Nat.testBit_two_pow_sub_succ (x := (allB kind).toNat) (n := 64) (by have := allB_lt kind; omega) u
        rw [show 2 ^ 64 - ((allB kind).toNat + 1) = 18446744073709551615 - (allB kind).toNat by omega, e] at e2
        simp [hu64] at e2
        exact e2

theorem lex_lo (kind : Int) : lexLo kind = loI kind := by unfold lexLo loI; rfl
theorem lex_hi (kind : Int) : hiI kind ≤ lexHi kind := by unfold hiI lexHi; repeat' split <;> omega
theorem numL_dg (n : Nat) (h : n < 64) : numL (dg n) = ((n : Int), 0) := by
  have : ∀ n < 64, numL (dg n) = ((n : Int), 0) := by decide +kernel
  exact this n h
theorem dg_first (n : Nat) (h : n < 64) : digI (((dg n).headD 0).toNat : Int) = true := by
  have : ∀ n < 64, digI (((dg n).headD 0).toNat : Int) = true := by decide +kernel
  exact this n h
theorem first_of (l : List UInt8) (h : 0 < (⟨l.toArray⟩ : ByteArray).size) : (⟨l.toArray⟩ : ByteArray)[0] = l.headD 0 := by
  cases l with
  | nil => exact absurd h (by decide)
  | cons a l => rfl
/-- A number's digits are a value. -/
theorem val_dg (kind : Int) (n : Nat) (h0 : 0 ≤ kind) (h1 : kind ≤ 4) (hn : n < 64) (hlo : lexLo kind ≤ (n : Int)) (hhi : (n : Int) ≤ lexHi kind) : ValIs ⟨(dg n).toArray⟩ kind n := by
  intro w
  have hp : 0 < (⟨(dg n).toArray⟩ : ByteArray).size := by
    have := dg_len n
    show 0 < (dg n).toArray.size
    simp
    exact List.length_pos_iff.2 (dg_ne n)
  have hd : digI ((⟨(dg n).toArray⟩ : ByteArray)[0].toNat : Int) = true := by
    have := dg_first n hn
    rw [first_of (dg n) hp]
    exact this
  have h := value_dig ⟨(dg n).toArray⟩ kind w h0 h1 hp hd
  rw [bytes_mk, numL_dg n hn] at h
  have e : rangeI kind ((n : Int), 0) = ((n : Int), 0) := by
    unfold rangeI
    rw [if_neg]
    rintro ⟨_, h | h⟩ <;> simp at h <;> omega
  rw [e] at h
  exact h

theorem text_list (l : List UInt8) : (⟨l.toArray⟩ : ByteArray).toList = l := by rw [ByteArray.toList_eq]
/-- An item's text is in order. -/
theorem item_ok (kind : Int) (i : List UInt8 × Nat × Nat) (h0 : 0 ≤ kind) (h1 : kind ≤ 4) (hs : (∃ p, i = (dg p, p, p)) ∨ (∃ p q, i = (dg p ++ 45 :: dg q, p, q))) (hle : i.2.1 ≤ i.2.2) (hlo : lexLo kind ≤ (i.2.1 : Int)) (hhi : (i.2.2 : Int) ≤ lexHi kind) (h59 : i.2.2 ≤ 59) :
    ItemOk kind ⟨i.1.toArray⟩ i.2.1 i.2.2 1 where
  k0 := h0
  k1 := h1
  lo0 := by omega
  hi1 := by omega
  st0 := by omega
  st1 := by omega
  size := by
    rcases hs with ⟨p, rfl⟩ | ⟨p, q, rfl⟩
    · have := dg_le p; show (dg p).toArray.size < _; simp; omega
    · have := dg_le p; have := dg_le q; show (dg p ++ 45 :: dg q).toArray.size < _; simp; omega
  ex := by
    rcases hs with ⟨p, rfl⟩ | ⟨p, q, rfl⟩
    · simp only at *
      obtain ⟨a0, a1, a2, a3, a4, a5⟩ := dg_not p (by omega)
      refine ⟨⟨(dg p).toArray⟩, ⟨#[]⟩, false, 1, #[.string ⟨(dg p).toArray⟩], cut_none 47 _ a2, by show (dg p).toArray.size < _; have := dg_le p; simp; omega, by decide, by decide +kernel, ?_, ?_, by omega, (fun h => by cases h), ?_, .inl ⟨rfl, rfl⟩⟩
      · rw [countB_of, bytes_mk, splitL_none 45 _ a1]; rfl
      · rw [splitB_of 45 _ [⟨(dg p).toArray⟩] (by rw [bytes_mk, splitL_none 45 _ a1]; rfl)]; rfl
      · refine .inr (.inl ⟨?_, rfl, rfl, _, rfl, val_dg kind p h0 h1 (by omega) hlo hhi⟩)
        rw [text_list]
        intro e
        exact a5 (by rw [e]; simp)
    · simp only at *
      obtain ⟨a0, a1, a2, a3, a4, a5⟩ := dg_not p (by omega)
      obtain ⟨b0, b1, b2, b3, b4, b5⟩ := dg_not q (by omega)
      have hsp : splitL 45 (dg p ++ 45 :: dg q) = [dg p, dg q] := by rw [splitL_cut 45 _ _ a1, splitL_none 45 _ b1]
      refine ⟨⟨(dg p ++ 45 :: dg q).toArray⟩, ⟨#[]⟩, false, 2, #[.string ⟨(dg p).toArray⟩, .string ⟨(dg q).toArray⟩], cut_none 47 _ (by simp [a2, b2]), by show (dg p ++ 45 :: dg q).toArray.size < _; have := dg_le p; have := dg_le q; simp; omega, by decide, by decide +kernel, ?_, ?_, by omega, (fun h => by cases h), ?_, .inl ⟨rfl, rfl⟩⟩
      · rw [countB_of, bytes_mk, hsp]; rfl
      · rw [splitB_of 45 _ [⟨(dg p).toArray⟩, ⟨(dg q).toArray⟩] (by rw [bytes_mk, hsp]; rfl)]; rfl
      · refine .inr (.inr ⟨?_, rfl, by omega, _, _, rfl, val_dg kind p h0 h1 (by omega) hlo (by omega), val_dg kind q h0 h1 (by omega) (by omega) hhi⟩)
        rw [text_list]
        intro e
        exact absurd (show (45 : UInt8) ∈ [42] by rw [← e]; simp) (by decide)
theorem itemsR_shape (r : Nat × Nat) : ∀ i ∈ itemsR r, (∃ p, i = (dg p, p, p)) ∨ (∃ p q, i = (dg p ++ 45 :: dg q, p, q)) := by
  intro i hi
  unfold itemsR at hi
  split at hi
  · simp at hi; exact .inl ⟨_, hi⟩
  · split at hi
    · simp at hi
      rcases hi with hi | hi
      · exact .inl ⟨_, hi⟩
      · exact .inl ⟨_, hi⟩
    · simp at hi; exact .inr ⟨_, _, hi⟩
/-- The items of a field's text, as field.Parse reads them. -/
def itL (B : Nat) : List It := (itemsL (runsN B)).map fun i => (⟨i.1.toArray⟩, (i.2.1 : Int), (i.2.2 : Int), 1)
theorem itL_ok {B : Nat} {s : Bool} {kind : Int} (hB : B < 18446744073709551616) (h : chkI (B : Int) s kind = 0) : ∀ x ∈ itL B, ItemOk kind x.1 x.2.1 x.2.2.1 x.2.2.2 := by
  obtain ⟨h0, h1, hin⟩ := chk_in hB h
  intro x hx
  obtain ⟨i, hi, rfl⟩ := List.mem_map.1 hx
  obtain ⟨r, hr, hi'⟩ := List.mem_flatMap.1 hi
  obtain ⟨_, r2, r3, r4, r5⟩ := runs_in (runsN_is hB) r hr
  obtain ⟨_, a2, a3, a4, a5⟩ := itemsR_of r r2 r3 i hi'
  have e1 := hin _ r4
  have e2 := hin _ r5
  have e3 := lex_lo kind
  have e4 := lex_hi kind
  have e5 : hiI kind ≤ 59 := by unfold hiI; repeat' split <;> omega
  exact item_ok kind i h0 h1 (itemsR_shape r i hi') a2 (by omega) (by omega) (by omega)
theorem pf_back {B : Nat} {kind : Int} (hB : B < 18446744073709551616) (h : chkI (B : Int) false kind = 0) : PF ⟨(fieldT B false).toArray⟩ kind false (itL B) := by
  have hne : B ≠ 0 := by have := chk_ne h; omega
  have hsp := fieldT_split hB hne
  have hmap : (itemsL (runsN B)).map (·.1) = ((itL B).map (·.1)).map (·.data.toList) := by simp [itL]
  refine ⟨?_, ?_, ?_, ?_, ?_, itL_ok hB h⟩
  · show (fieldT B false).toArray.size < _
    have := fieldT_le B false
    simp; omega
  · rw [text_list]
    have := fieldT_star hB
    rw [beq_eq_false_iff_ne]
    intro e
    exact this (by rw [e]; simp)
  · exact splitB_of 44 _ _ (by rw [bytes_mk, hsp, hmap])
  · rw [countB_of, bytes_mk, hsp]; simp [itL]
  · have h1 := fieldT_le B false
    have h2 : (splitL 44 (fieldT B false)).length ≤ (fieldT B false).length + 1 := splitL_len 44 _
    rw [hsp] at h2
    simp [itL] at h2 ⊢
    omega

/-! ### The bits of the items -/
theorem orB_nat (b x : Nat) (hb : b < 18446744073709551616) (hx : x < 64) : orB (b : Int) (x : Int) = ((b ||| 2 ^ x : Nat) : Int) := by
  unfold orB
  rw [wrap_u64 (x : Int) (by omega) (by omega), Int.toNat_natCast, Nat.min_eq_left (by omega)]
  have hp : 2 ^ x < 18446744073709551616 := by
    rw [show (18446744073709551616 : Nat) = 2 ^ 64 by rfl]
    exact Nat.pow_lt_pow_right (by decide) hx
  rw [show (2 : Int) ^ x = ((2 ^ x : Nat) : Int) by push_cast; rfl]
  generalize 2 ^ x = P at hp ⊢
  rw [wrap_u64 _ (by omega) (by omega)]
  exact u64_or_nat b _ hb hp
theorem or_lt {b x : Nat} (hb : b < 18446744073709551616) (hx : x < 64) : b ||| 2 ^ x < 18446744073709551616 := by
  rw [show (18446744073709551616 : Nat) = 2 ^ 64 by rfl] at hb ⊢
  exact Nat.or_lt_two_pow hb (Nat.pow_lt_pow_right (by decide) hx)
theorem or_bit (b x u : Nat) : (b ||| 2 ^ x).testBit u = (b.testBit u || decide (x = u)) := by
  rw [Nat.testBit_or, Nat.testBit_two_pow]
/-- The bits of the values from v on, k of them. -/
theorem bits_vals (kind : Int) (q : Nat) (hk : kind = 4 → q ≤ 6) (hq : q < 64) : ∀ (k v b : Nat), b < 18446744073709551616 → q < v + k →
    ∃ c : Nat, bitsV (b : Int) (valsF kind (q : Int) 1 k (v : Int)) = (c : Int) ∧ c < 18446744073709551616 ∧ ∀ u, c.testBit u = (b.testBit u || (decide (v ≤ u) && decide (u ≤ q)))
  | 0, v, b, hb, hv => ⟨b, rfl, hb, fun u => by simp; intro h1 h2; omega⟩
  | k + 1, v, b, hb, hv => by
    unfold valsF
    by_cases hle : (v : Int) ≤ (q : Int)
    · rw [if_pos hle]
      have hd : dayOf kind (v : Int) = (v : Int) := by
        unfold dayOf
        split
        · rename_i h4; have := hk h4; omega
        · rfl
      obtain ⟨c, h1, h2, h3⟩ := bits_vals kind q hk hq k (v + 1) (b ||| 2 ^ v) (or_lt hb (by omega)) (by omega)
      refine ⟨c, ?_, h2, fun u => ?_⟩
      · rw [← h1, hd]
        show bitsV (orB (b : Int) (v : Int)) _ = _
        rw [orB_nat b v hb (by omega)]
        rfl
      · rw [h3, or_bit]
        by_cases e : v = u
        · subst e; simp; omega
        · have e2 : decide (v = u) = false := by simpa using e
          rw [e2, Bool.or_false]
          congr 2
          rw [decide_eq_decide]; omega
    · rw [if_neg hle]
      exact ⟨b, rfl, hb, fun u => by simp; intro h1 h2; omega⟩
theorem bits_items (kind : Int) : ∀ (l : List (List UInt8 × Nat × Nat)) (b : Nat), b < 18446744073709551616 → (∀ i ∈ l, i.2.2 < 64 ∧ (kind = 4 → i.2.2 ≤ 6)) →
    ∃ c : Nat, bitsI kind (b : Int) (l.map fun i => (⟨i.1.toArray⟩, (i.2.1 : Int), (i.2.2 : Int), 1)) = (c : Int) ∧ c < 18446744073709551616 ∧ ∀ u, c.testBit u = true ↔ (b.testBit u = true ∨ ∃ i ∈ l, i.2.1 ≤ u ∧ u ≤ i.2.2)
  | [], b, hb, _ => ⟨b, rfl, hb, fun u => by simp⟩
  | i :: l, b, hb, h => by
    obtain ⟨h1, h2⟩ := h i (by simp)
    obtain ⟨c, e1, e2, e3⟩ := bits_vals kind i.2.2 h2 h1 64 i.2.1 b hb (by omega)
    obtain ⟨d, f1, f2, f3⟩ := bits_items kind l c e2 (fun j hj => h j (by simp [hj]))
    refine ⟨d, ?_, f2, fun u => ?_⟩
    · rw [← f1]
      show bitsI kind (bitsV (b : Int) (valsI kind (i.2.1 : Int) (i.2.2 : Int) 1)) _ = _
      rw [show valsI kind (i.2.1 : Int) (i.2.2 : Int) 1 = valsF kind (i.2.2 : Int) 1 64 (i.2.1 : Int) from rfl, e1]
    · rw [f3, e3]
      simp [or_assoc]
theorem bits_back {B : Nat} {kind : Int} (hB : B < 18446744073709551616) (h : chkI (B : Int) false kind = 0) : bitsI kind 0 (itL B) = (B : Int) := by
  obtain ⟨h0, h1, hin⟩ := chk_in hB h
  obtain ⟨c, e1, e2, e3⟩ := bits_items kind (itemsL (runsN B)) 0 (by decide) (fun i hi => by
    obtain ⟨r, hr, hi'⟩ := List.mem_flatMap.1 hi
    obtain ⟨_, r2, r3, r4, r5⟩ := runs_in (runsN_is hB) r hr
    obtain ⟨_, a2, a3, a4, a5⟩ := itemsR_of r r2 r3 i hi'
    refine ⟨a3, fun h4 => ?_⟩
    have := (hin _ r5).2
    subst h4
    have : hiI 4 = 6 := by decide
    omega)
  have e1' : bitsI kind 0 (itL B) = (c : Int) := e1
  rw [e1']
  congr 1
  apply Nat.eq_of_testBit_eq
  intro u
  by_cases hu : u < 64
  · rw [Bool.eq_iff_iff, e3, items_mem (runsN_is hB) u (Nat.zero_le _) hu]
    simp
  · rw [bit_small e2 (by omega), bit_small hB (by omega)]

theorem bits_star (kind : Int) (h0 : 0 ≤ kind) (h1 : kind ≤ 4) : bitsI kind 0 [(⟨#[42]⟩, lexLo kind, lexHi kind, 1)] = allB kind := by
  obtain rfl | rfl | rfl | rfl | rfl : kind = 0 ∨ kind = 1 ∨ kind = 2 ∨ kind = 3 ∨ kind = 4 := by omega
  · exact bs0
  · exact bs1
  · exact bs2
  · exact bs3
  · exact bs4
/-- field.Parse at what is shown of a field: the same field. -/
theorem parse_back (b : Int) (s : Bool) (kind : Int) (w : World) (hb : U64 b) (h : chkI b s kind = 0) (hE : Env w) (h8 : 8 ≤ w.heap.size) :
    Calls Tryz.prog 33 #[.string ⟨(fieldT b.toNat s).toArray⟩, .int .i64 kind] w fun e w' => e = .returned (.tuple #[.agg #[.int .u64 b, .bool s], .int .i64 0]) ∧ Below w.heap.size w w' := by
  obtain ⟨B, rfl⟩ := Int.eq_ofNat_of_zero_le hb.1
  have hB : B < 18446744073709551616 := by have := hb.2; omega
  obtain ⟨h0, h1, _⟩ := chk_in hB h
  rw [Int.toNat_natCast]
  cases s
  · have hp := (pf_back hB h).ok w h0 h1 hE h8
    rw [bits_back hB h] at hp
    exact hp
  · have hp := (pf_star kind h0 h1).ok w h0 h1 hE h8
    rw [bits_star kind h0 h1, ← chk_star h] at hp
    exact hp

end Go.Proofs.YtkdejfedigiohaaGreatDoor

/- complinelaw20.ShowBack: the walk. -/
namespace Go.Proofs.YtkdejfedigiohaaGreatDoor
open Go.RowKit Go.Proofs.YtkdejfedigiohaaGreatDoorW.PrintWords Go.Proofs.YtkdejfedigiohaaGreatDoorW.PrintLast Go.Proofs.YtkdejfedigiohaaGreatDoorW.PrintMore
set_option linter.unusedVariables false
set_option linter.unusedSimpArgs false


set_option maxRecDepth 100000 in
set_option maxHeartbeats 2000000 in
theorem back_bad (b : Int) (s : Bool) (kind : Int) (w : World) (hb : U64 b) (h : chkI b s kind ≠ 0) (hE : Env w) (hT : TabIn w) (h8 : 8 ≤ w.heap.size) :
    Calls Tryz.prog 10 #[.agg #[.int .u64 b, .bool s], .int .i64 kind] w fun e w' => e = .returned (.bool true) ∧ Below w.heap.size w w' := by
  have hne : (chkI b s kind != 0) = true := by simpa using h
  have hF := fun W => Lib.hid (field_bad b s kind W hb h)
  have hC := fun w => Lib.hid (check_any b s kind w hb)
  have hEH := Lib.hid hE
  have hTH := Lib.hid hT
  clear h hE hT
  generalize chkI b s kind = c at *
  go_enter Tryz.func10, Tryz.ntmps10
  go_wp2_with fail
  have hB0 : Below w.heap.size w (w.alloc (.cells #[.int .u64 b, .bool s] 24)) := (Below.refl _ _).alloc (Nat.le_refl _) _
  have hX0 : (w.alloc (.cells #[.int .u64 b, .bool s] 24)).heap[w.heap.size]? = some (.cells #[.int .u64 b, .bool s] 24 (0, 0)) := blk_new _ _
  generalize w.alloc (.cells #[.int .u64 b, .bool s] 24) = W1 at *
  refine (works20_ok W1 (hEH.out.below hB0) (hTH.out.on hB0) (Nat.le_trans h8 hB0.size)).mono ?_
  rintro e w1 ⟨rfl, hk⟩
  have hX1 := blk_below hX0 hk
  have hB1 := hB0.trans (hk.mono hB0.size)
  clear hk hX0 hB0
  have c0 : w1.cell? ⟨w.heap.size, 0, none⟩ = some (.int .u64 b) := blk_cell hX1 0
  have c1 : w1.cell? ⟨w.heap.size, 1, none⟩ = some (.bool s) := blk_cell hX1 1
  have hX1H := Lib.hid hX1
  clear hX1
  go_wp2_with fail
  refine (hF _).out.mono ?_
  rintro e w2 ⟨rfl, hk⟩
  have hX2 := blk_below hX1H.out hk
  have hB2 := hB1.trans (hk.mono hB1.size)
  clear hk hB1 c0 c1 hF hX1H
  have c0 : w2.cell? ⟨w.heap.size, 0, none⟩ = some (.int .u64 b) := blk_cell hX2 0
  have c1 : w2.cell? ⟨w.heap.size, 1, none⟩ = some (.bool s) := blk_cell hX2 1
  clear hX2
  go_wp2_with fail
  refine (hC _).out.mono ?_
  rintro e w3 ⟨rfl, hk⟩
  have hB3 := hB2.trans (hk.mono hB2.size)
  clear hk hB2 c0 c1 hC
  go_wp2
  go_ret
  exact ⟨ret_bool (by simp), hB3⟩

set_option maxRecDepth 100000 in
set_option maxHeartbeats 2000000 in
theorem back_good (b : Int) (s : Bool) (kind : Int) (w : World) (hb : U64 b) (h : chkI b s kind = 0) (hE : Env w) (hT : TabIn w) (h8 : 8 ≤ w.heap.size) :
    Calls Tryz.prog 10 #[.agg #[.int .u64 b, .bool s], .int .i64 kind] w fun e w' => e = .returned (.bool true) ∧ Below w.heap.size w w' := by
  have e1 : fieldI b s kind = (fieldT b.toNat s, 0) := by unfold fieldI; rw [if_pos h]
  have hF := fun W hW => show_field b s kind W hb hW
  rw [e1] at hF
  have hF := fun W hW => Lib.hid (hF W hW)
  have hP := fun W hW hW8 => Lib.hid (parse_back b s kind W hb h hW hW8)
  have hEH := Lib.hid hE
  have hTH := Lib.hid hT
  clear h hE hT e1
  generalize fieldT b.toNat s = t at *
  go_enter Tryz.func10, Tryz.ntmps10
  go_wp2_with fail
  have hB0 : Below w.heap.size w (w.alloc (.cells #[.int .u64 b, .bool s] 24)) := (Below.refl _ _).alloc (Nat.le_refl _) _
  have hX0 : (w.alloc (.cells #[.int .u64 b, .bool s] 24)).heap[w.heap.size]? = some (.cells #[.int .u64 b, .bool s] 24 (0, 0)) := blk_new _ _
  generalize w.alloc (.cells #[.int .u64 b, .bool s] 24) = W1 at *
  refine (works20_ok W1 (hEH.out.below hB0) (hTH.out.on hB0) (Nat.le_trans h8 hB0.size)).mono ?_
  rintro e w1 ⟨rfl, hk⟩
  have hX1 := blk_below hX0 hk
  have hB1 := hB0.trans (hk.mono hB0.size)
  clear hk hX0 hB0
  have c0 : w1.cell? ⟨w.heap.size, 0, none⟩ = some (.int .u64 b) := blk_cell hX1 0
  have c1 : w1.cell? ⟨w.heap.size, 1, none⟩ = some (.bool s) := blk_cell hX1 1
  have hX1H := Lib.hid hX1
  clear hX1
  go_wp2_with fail
  refine (hF _ (hTH.out.on hB1)).out.mono ?_
  rintro e w2 ⟨rfl, hk⟩
  have hX2 := blk_below hX1H.out hk
  have hB2 := hB1.trans (hk.mono hB1.size)
  clear hk hB1 c0 c1 hF hX1H
  go_wp2_with fail
  refine (hP _ (hEH.out.below hB2) (Nat.le_trans h8 hB2.size)).out.mono ?_
  rintro e w3 ⟨rfl, hk⟩
  have hX3 : (w3.alloc (.cells #[.int .u64 b, .bool s] 24)).heap[w.heap.size]? = some (.cells #[.int .u64 b, .bool s] 24 (0, 0)) := blk_alloc (blk_below hX2 hk) _
  have hY3 : (w3.alloc (.cells #[.int .u64 b, .bool s] 24)).heap[w3.heap.size]? = some (.cells #[.int .u64 b, .bool s] 24 (0, 0)) := blk_new _ _
  have hB3 := (hB2.trans (hk.mono hB2.size)).alloc (hB2.trans (hk.mono hB2.size)).size (.cells #[.int .u64 b, .bool s] 24)
  clear hk hB2 hX2 hP
  have c0 : (w3.alloc (.cells #[.int .u64 b, .bool s] 24)).cell? ⟨w.heap.size, 0, none⟩ = some (.int .u64 b) := blk_cell hX3 0
  have c1 : (w3.alloc (.cells #[.int .u64 b, .bool s] 24)).cell? ⟨w.heap.size, 1, none⟩ = some (.bool s) := blk_cell hX3 1
  have d0 : (w3.alloc (.cells #[.int .u64 b, .bool s] 24)).cell? ⟨w3.heap.size, 0, none⟩ = some (.int .u64 b) := blk_cell hY3 0
  have d1 : (w3.alloc (.cells #[.int .u64 b, .bool s] 24)).cell? ⟨w3.heap.size, 1, none⟩ = some (.bool s) := blk_cell hY3 1
  clear hX3 hY3
  go_wp2
  go_ret
  exact ⟨ret_bool (by simp), hB3⟩

theorem back_any (b : Int) (s : Bool) (kind : Int) (w : World) (hb : U64 b) (hE : Env w) (hT : TabIn w) (h8 : 8 ≤ w.heap.size) :
    Calls Tryz.prog 10 #[.agg #[.int .u64 b, .bool s], .int .i64 kind] w fun e w' => e = .returned (.bool true) ∧ Below w.heap.size w w' := by
  by_cases h : chkI b s kind = 0
  · exact back_good b s kind w hb h hE hT h8
  · exact back_bad b s kind w hb h hE hT h8

end Go.Proofs.YtkdejfedigiohaaGreatDoor

/- The words of a text of ASCII, as a plain function of its bytes. -/
namespace Go.Proofs.YtkdejfedigiohaaGreatDoor
set_option linter.unusedVariables false
set_option linter.unusedSimpArgs false
open Go.Lib

def fieldsL (p : UInt8 → Bool) : List UInt8 → List UInt8 → List (List UInt8)
  | cur, [] => if cur = [] then [] else [cur]
  | cur, c :: l => if p c then (if cur = [] then fieldsL p [] l else cur :: fieldsL p [] l) else fieldsL p (cur ++ [c]) l

def StIs (s : ByteArray) (pos : Nat) (cur : List UInt8) : Option Nat → Prop
  | none => cur = []
  | some a => a < pos ∧ cur = (s.data.toList.take pos).drop a
theorem spans_fields (p : Nat → Bool) (s : ByteArray) (hA : ∀ i (h : i < s.size), s[i].toNat < 128) : ∀ (f pos : Nat) (st : Option Nat) (acc : List (Nat × Nat)) (cur : List UInt8), s.size ≤ pos + f → pos ≤ s.size → StIs s pos cur st →
    ((closeSpans s (spansFromP p s f pos st acc)).map fun x => (s.extract x.1 x.2).data.toList) = (acc.map fun x => (s.extract x.1 x.2).data.toList) ++ fieldsL (fun c => p c.toNat) cur (s.data.toList.drop pos)
  | 0, pos, st, acc, cur, h, hp, hs => by
    obtain rfl : pos = s.size := by omega
    have hd : s.data.toList.drop s.size = [] := List.drop_eq_nil_of_le (by rw [size_toList]; exact Nat.le_refl _)
    rw [hd]
    cases st with
    | none =>
      have : cur = [] := hs
      subst this
      simp [spansFromP, closeSpans, fieldsL]
    | some a =>
      obtain ⟨h1, h2⟩ := hs
      have hne : cur ≠ [] := by
        intro e
        rw [e] at h2
        have := congrArg List.length h2
        simp only [List.length_nil, List.length_drop, List.length_take] at this
        have := size_toList s
        omega
      simp only [spansFromP, closeSpans, fieldsL, hne, if_false, List.map_append, List.map_cons, List.map_nil]
      rw [extract_data, h2, List.drop_take]
  | f + 1, pos, st, acc, cur, h, hp, hs => by
    unfold spansFromP
    by_cases hlt : pos < s.size
    · rw [if_pos hlt, decode_ascii s pos hlt (hA pos hlt), drop_at s pos hlt]
      have hlen := size_toList s
      by_cases hq : p s[pos].toNat = true
      · rw [if_pos hq]
        cases st with
        | none =>
          have : cur = [] := hs
          subst this
          have ih := spans_fields p s hA f (pos + 1) none acc [] (by omega) (by omega) rfl
          simp only [fieldsL, hq, if_true]
          exact ih
        | some a =>
          obtain ⟨h1, h2⟩ := hs
          have hne : cur ≠ [] := by
            intro e
            rw [e] at h2
            have := congrArg List.length h2
            simp only [List.length_nil, List.length_drop, List.length_take] at this
            omega
          have ih := spans_fields p s hA f (pos + 1) none (acc ++ [(a, pos)]) [] (by omega) (by omega) rfl
          simp only [fieldsL, hq, if_true, hne, if_false]
          rw [ih, List.map_append, List.append_assoc]
          simp only [List.map_cons, List.map_nil, List.singleton_append]
          rw [extract_data, h2, List.drop_take]
      · rw [if_neg hq]
        have ht : s.data.toList.take (pos + 1) = s.data.toList.take pos ++ [s[pos]] := by
          rw [List.take_succ_eq_append_getElem (by omega)]; rfl
        cases st with
        | none =>
          have : cur = [] := hs
          subst this
          have ih := spans_fields p s hA f (pos + 1) (some pos) acc [s[pos]] (by omega) (by omega) ⟨by omega, by
            rw [ht, List.drop_append_of_le_length (by rw [List.length_take]; omega), List.drop_eq_nil_of_le (by rw [List.length_take]; omega)]; rfl⟩
          simp only [fieldsL, hq, Bool.false_eq_true, if_false, List.nil_append]
          exact ih
        | some a =>
          obtain ⟨h1, h2⟩ := hs
          have ih := spans_fields p s hA f (pos + 1) (some a) acc (cur ++ [s[pos]]) (by omega) (by omega) ⟨by omega, by
            rw [ht, List.drop_append_of_le_length (by rw [List.length_take]; omega), h2]⟩
          simp only [fieldsL, hq, Bool.false_eq_true, if_false]
          exact ih
    · rw [if_neg hlt]
      have hsz : pos = s.size := by omega
      have ih := spans_fields p s hA 0 pos st acc cur (by omega) hp hs
      simp only [spansFromP] at ih
      exact ih
def blankU (c : UInt8) : Bool := blankI (c.toNat : Int)
theorem wordsL_eq (s : ByteArray) (hA : ∀ i (h : i < s.size), s[i].toNat < 128) : (wordsL s).map (·.data.toList) = fieldsL blankU [] s.data.toList := by
  have h := spans_fields (fun x => blankI x) s hA s.size 0 none [] [] (by omega) (by omega) rfl
  simp only [List.map_nil, List.nil_append, List.drop_zero] at h
  unfold wordsL goFieldsP spansOfP
  rw [List.map_map]
  exact h
theorem joinL_cons' (b : UInt8) (x : List UInt8) (xs : List (List UInt8)) (h : xs ≠ []) : joinL b (x :: xs) = x ++ b :: joinL b xs := by
  cases xs with
  | nil => exact absurd rfl h
  | cons y t => rfl
theorem fieldsL_app (p : UInt8 → Bool) : ∀ (a cur l : List UInt8), (∀ c ∈ a, p c = false) → fieldsL p cur (a ++ l) = fieldsL p (cur ++ a) l
  | [], cur, l, _ => by simp
  | c :: a, cur, l, h => by
    rw [List.cons_append]
    show (if p c then _ else fieldsL p (cur ++ [c]) (a ++ l)) = _
    rw [if_neg (by simp [h c (by simp)]), fieldsL_app p a (cur ++ [c]) l (fun d hd => h d (by simp [hd]))]
    simp
theorem fieldsL_join (p : UInt8 → Bool) (b : UInt8) (hb : p b = true) : ∀ (xs : List (List UInt8)), (∀ x ∈ xs, x ≠ [] ∧ ∀ c ∈ x, p c = false) → fieldsL p [] (joinL b xs) = xs
  | [], _ => by simp [joinL, fieldsL]
  | [x], h => by
    have h1 := h x (by simp)
    have := fieldsL_app p x [] [] h1.2
    simp only [List.append_nil, List.nil_append] at this
    show fieldsL p [] x = _
    rw [this]
    simp [fieldsL, h1.1]
  | x :: y :: t, h => by
    have h1 := h x (by simp)
    rw [joinL_cons' b x (y :: t) (by simp), fieldsL_app p x [] _ h1.2, List.nil_append]
    show (if p b then (if x = [] then _ else x :: fieldsL p [] (joinL b (y :: t))) else _) = _
    rw [if_pos hb, if_neg h1.1, fieldsL_join p b hb (y :: t) (fun z hz => h z (by simp [hz]))]
end Go.Proofs.YtkdejfedigiohaaGreatDoor

/- What is shown of a spec is parsed back. -/
namespace Go.Proofs.YtkdejfedigiohaaGreatDoor
set_option linter.unusedVariables false
set_option linter.unusedSimpArgs false
open Go.RowKit

/-- At most a third of this many bytes for the values below u. -/
def phi (u : Nat) : Nat := if u ≤ 10 then 4 * u else 40 + 6 * (u - 10)
def sumR (l : List (Nat × Nat)) : Nat := (l.map fun r => (runL r).length + 1).sum
theorem runsT_sum : ∀ (l : List (Nat × Nat)) (acc : List UInt8), acc ≠ [] → (runsT acc l).length = acc.length + sumR l
  | [], acc, _ => by simp [runsT, sumR]
  | r :: l, acc, h => by
    have ih := runsT_sum l (pieceL 44 acc (runL r)) (pieceL_ne 44 acc _ (runL_ne r))
    show (runsT (pieceL 44 acc (runL r)) l).length = _
    rw [ih]
    unfold pieceL
    rw [if_neg h]
    simp [sumR]; omega
theorem runsT_first (r : Nat × Nat) (l : List (Nat × Nat)) : (runsT [] (r :: l)).length + 1 = sumR (r :: l) := by
  show (runsT (pieceL 44 [] (runL r)) l).length + 1 = _
  rw [show pieceL 44 [] (runL r) = runL r from rfl, runsT_sum l _ (runL_ne r)]
  simp [sumR]; omega
theorem run_phi (p q : Nat) (h : p ≤ q) (hq : q < 64) : 3 * ((runL (p, q)).length + 1) + phi p ≤ phi (q + 2) := by
  have : ∀ q < 64, ∀ p ≤ q, 3 * ((runL (p, q)).length + 1) + phi p ≤ phi (q + 2) := by decide +kernel
  exact this q hq p h
theorem phi_mono {a b : Nat} (h : a ≤ b) : phi a ≤ phi b := by
  unfold phi
  split <;> split <;> omega
theorem runs_skip {B v : Nat} {l : List (Nat × Nat)} (h : IsRuns B v l) (hv : B.testBit v = false) : IsRuns B (v + 1) l := by
  cases h with
  | nil h0 => exact .nil fun u h1 h2 => h0 u (by omega) h2
  | @cons _ p q l h1 h2 h3 h4 h5 h6 h7 =>
    refine .cons ?_ h2 h3 (fun u a b => h4 u (by omega) b) h5 h6 h7
    have := h5 p (Nat.le_refl _) h2
    rcases Nat.lt_or_ge v p with h | h
    · exact h
    · obtain rfl : p = v := by omega
      rw [hv] at this; cases this
theorem sum_phi {B hi : Nat} : ∀ {l : List (Nat × Nat)} {v : Nat}, IsRuns B v l → (∀ r ∈ l, r.2 ≤ hi) → l ≠ [] → 3 * sumR l + phi v ≤ phi (hi + 2)
  | [], v, _, _, h => absurd rfl h
  | (p, q) :: l, v, h, hh, _ => by
    cases h with
    | cons h1 h2 h3 h4 h5 h6 h7 =>
      have a := run_phi p q h2 h3
      have b := phi_mono h1
      have c : q ≤ hi := hh (p, q) (by simp)
      have d : sumR ((p, q) :: l) = (runL (p, q)).length + 1 + sumR l := by simp [sumR]
      by_cases hl : l = []
      · subst hl
        have e := phi_mono (show q + 2 ≤ hi + 2 by omega)
        rw [d]; simp [sumR] at *; omega
      · have e := sum_phi (runs_skip h7 h6) (fun r hr => hh r (by simp [hr])) hl
        rw [show q + 1 + 1 = q + 2 from rfl] at e
        rw [d]; omega
theorem fieldT_phi {b : Int} {s : Bool} {kind : Int} (hb : U64 b) (h : chkI b s kind = 0) : 3 * ((fieldT b.toNat s).length + 1) ≤ phi ((hiI kind).toNat + 2) := by
  obtain ⟨B, rfl⟩ := Int.eq_ofNat_of_zero_le hb.1
  have hB : B < 18446744073709551616 := by have := hb.2; omega
  have hne : B ≠ 0 := by have := chk_ne h; omega
  obtain ⟨h0, h1, hin⟩ := chk_in hB h
  rw [Int.toNat_natCast]
  unfold fieldT
  cases s
  · rw [if_neg (by decide)]
    have hr := runs_ne hne hB
    have := sum_phi (runsN_is hB) (hi := (hiI kind).toNat) (fun r hr => by
      have := (hin _ (runs_in (runsN_is hB) r hr).2.2.2.2).2
      omega) hr
    cases hl : runsN B with
    | nil => exact absurd hl hr
    | cons r l =>
      rw [hl] at this
      have e := runsT_first r l
      omega
  · rw [if_pos rfl]
    obtain rfl | rfl | rfl | rfl | rfl : kind = 0 ∨ kind = 1 ∨ kind = 2 ∨ kind = 3 ∨ kind = 4 := by omega
    all_goals decide
theorem specT_256 {x : Sp} (h : x.Ok) (hc : (spChk x).2 = 0) : (specT x 5).length ≤ 256 := by
  have f := fun k hk => fieldT_phi (fd_ok h k) (fd_chk hc k hk)
  have f0 := f 0 (by decide)
  have f1 := f 1 (by decide)
  have f2 := f 2 (by decide)
  have f3 := f 3 (by decide)
  have f4 := f 4 (by decide)
  rw [show phi ((hiI ((0 : Nat) : Int)).toNat + 2) = 346 by decide] at f0
  rw [show phi ((hiI ((1 : Nat) : Int)).toNat + 2) = 130 by decide] at f1
  rw [show phi ((hiI ((2 : Nat) : Int)).toNat + 2) = 178 by decide] at f2
  rw [show phi ((hiI ((3 : Nat) : Int)).toNat + 2) = 64 by decide] at f3
  rw [show phi ((hiI ((4 : Nat) : Int)).toNat + 2) = 32 by decide] at f4
  have s : ∀ k, (specT x (k + 1)).length ≤ (specT x k).length + 1 + (fieldT (x.fd k).b.toNat (x.fd k).s).length := fun k => pieceL_le 32 _ _
  have s0 : (specT x 1).length ≤ (specT x 0).length + 1 + (fieldT (x.fd 0).b.toNat (x.fd 0).s).length := s 0
  have s1 : (specT x 2).length ≤ (specT x 1).length + 1 + (fieldT (x.fd 1).b.toNat (x.fd 1).s).length := s 1
  have s2 : (specT x 3).length ≤ (specT x 2).length + 1 + (fieldT (x.fd 2).b.toNat (x.fd 2).s).length := s 2
  have s3 : (specT x 4).length ≤ (specT x 3).length + 1 + (fieldT (x.fd 3).b.toNat (x.fd 3).s).length := s 3
  have s4 : (specT x 5).length ≤ (specT x 4).length + 1 + (fieldT (x.fd 4).b.toNat (x.fd 4).s).length := s 4
  have z : (specT x 0).length = 0 := rfl
  omega

def okC (c : UInt8) : Bool := decide (c.toNat < 128) && knownI (c.toNat : Int)
theorem dg_okC (n : Nat) (h : n < 64) : ∀ c ∈ dg n, okC c = true := by
  have : ∀ n < 64, ∀ c ∈ dg n, okC c = true := by decide +kernel
  exact this n h
theorem joinL_in (b c : UInt8) : ∀ (xs : List (List UInt8)), c ∈ joinL b xs → c = b ∨ ∃ x ∈ xs, c ∈ x
  | [], h => by simp [joinL] at h
  | [x], h => .inr ⟨x, by simp, h⟩
  | x :: y :: t, h => by
    rw [joinL_cons b x (y :: t) (by simp)] at h
    rcases List.mem_append.1 h with h | h
    · exact .inr ⟨x, by simp, h⟩
    · rcases List.mem_cons.1 h with h | h
      · exact .inl h
      · rcases joinL_in b c (y :: t) h with h | ⟨z, hz, h⟩
        · exact .inl h
        · exact .inr ⟨z, by simp [hz], h⟩
theorem runL_okC (r : Nat × Nat) (h1 : r.1 ≤ r.2) (h2 : r.2 < 64) : ∀ i ∈ itemsR r, ∀ c ∈ i.1, okC c = true := by
  intro i hi c hc
  have a := dg_okC r.1 (by omega)
  have b := dg_okC r.2 h2
  unfold itemsR at hi
  split at hi
  · simp at hi; subst hi; exact a c hc
  · split at hi
    · simp at hi
      rcases hi with rfl | rfl
      · exact a c hc
      · exact b c hc
    · simp at hi; subst hi
      rcases List.mem_append.1 hc with hc | hc
      · exact a c hc
      · rcases List.mem_cons.1 hc with rfl | hc
        · decide
        · exact b c hc
theorem fieldT_okC {B : Nat} {s : Bool} (hB : B < 18446744073709551616) : ∀ c ∈ fieldT B s, okC c = true := by
  intro c hc
  unfold fieldT at hc
  cases s
  · rw [if_neg (by decide), runsT_items] at hc
    rcases joinL_in 44 c _ hc with rfl | ⟨x, hx, hc⟩
    · decide
    · obtain ⟨i, hi, rfl⟩ := List.mem_map.1 hx
      obtain ⟨r, hr, hi⟩ := List.mem_flatMap.1 hi
      obtain ⟨h1, h2, h3, _, _⟩ := runs_in (runsN_is hB) r hr
      exact runL_okC r h2 h3 i hi c hc
  · simp at hc; subst hc; decide
theorem specT_okC {x : Sp} (h : x.Ok) (hc : (spChk x).2 = 0) : ∀ c ∈ specT x 5, okC c = true := by
  intro c hm
  rw [specT_join x 5 (fun j hj => fd_ne h hc j hj)] at hm
  rcases joinL_in 32 c _ hm with rfl | ⟨y, hy, hm⟩
  · decide
  · obtain ⟨j, hj, rfl⟩ := List.mem_map.1 hy
    exact fieldT_okC (by have := (fd_ok h j).2; have := (fd_ok h j).1; omega) c hm
theorem okC_at {l : List UInt8} (h : ∀ c ∈ l, okC c = true) : ∀ i (hi : i < (⟨l.toArray⟩ : ByteArray).size), (⟨l.toArray⟩ : ByteArray)[i].toNat < 128 ∧ knownI ((⟨l.toArray⟩ : ByteArray)[i].toNat : Int) = true := by
  intro i hi
  have hi' : i < l.length := by simpa [ByteArray.size] using hi
  have e : (⟨l.toArray⟩ : ByteArray)[i] = l[i] := rfl
  rw [e]
  have := h l[i] (List.getElem_mem hi')
  unfold okC at this
  simpa using this
theorem words_back {x : Sp} (h : x.Ok) (hc : (spChk x).2 = 0) : wordsL ⟨(specT x 5).toArray⟩ = (List.range 5).map fun j => ⟨(fieldT (x.fd j).b.toNat (x.fd j).s).toArray⟩ := by
  have e := wordsL_eq ⟨(specT x 5).toArray⟩ (fun i hi => (okC_at (specT_okC h hc) i hi).1)
  rw [bytes_mk, specT_join x 5 (fun j hj => fd_ne h hc j hj), fieldsL_join blankU 32 (by decide) _ (by
    intro y hy
    obtain ⟨j, hj, rfl⟩ := List.mem_map.1 hy
    have hj : j < 5 := List.mem_range.1 hj
    refine ⟨fd_ne h hc j hj, fun c hcm => ?_⟩
    have hf := fieldT_free (B := (x.fd j).b.toNat) (s := (x.fd j).s) (by have := (fd_ok h j).2; have := (fd_ok h j).1; omega)
    have n1 : c ≠ 32 := fun e => hf.1 (e ▸ hcm)
    have n2 : c ≠ 9 := fun e => hf.2 (e ▸ hcm)
    unfold blankU blankI
    have m1 : c.toNat ≠ 32 := fun e => n1 (UInt8.toNat_inj.1 e)
    have m2 : c.toNat ≠ 9 := fun e => n2 (UInt8.toNat_inj.1 e)
    simp; omega)] at e
  rw [← specT_join x 5 (fun j hj => fd_ne h hc j hj)] at e
  refine map_eq_of (f := fun s : ByteArray => s.data.toList) (e.trans ?_) (fun a _ b _ he => bytes_ext he)
  rw [List.map_map]
  rfl
def itF (x : Sp) (k : Nat) : List It := if (x.fd k).s then [(⟨#[42]⟩, lexLo k, lexHi k, 1)] else itL (x.fd k).b.toNat
theorem pf_fd {x : Sp} (h : x.Ok) (hc : (spChk x).2 = 0) (k : Nat) (hk : k < 5) : PF ⟨(fieldT (x.fd k).b.toNat (x.fd k).s).toArray⟩ k (x.fd k).s (itF x k) ∧ bitsI k 0 (itF x k) = (x.fd k).b := by
  have a := fd_ok h k
  have c := fd_chk hc k hk
  unfold itF
  generalize (x.fd k).b = b at *
  generalize (x.fd k).s = s at *
  obtain ⟨B, rfl⟩ := Int.eq_ofNat_of_zero_le a.1
  have hB : B < 18446744073709551616 := by have := a.2; omega
  rw [Int.toNat_natCast]
  cases s
  · exact ⟨pf_back hB c, bits_back hB c⟩
  · refine ⟨pf_star k (by omega) (by omega), ?_⟩
    rw [chk_star c]
    exact bits_star k (by omega) (by omega)
theorem spec_back (x : Sp) (w : World) (h : x.Ok) (hc : (spChk x).2 = 0) (hE : Env w) (h8 : 8 ≤ w.heap.size) :
    Calls Tryz.prog 34 #[.string ⟨(specT x 5).toArray⟩] w fun e w' => e = .returned (.tuple #[.agg #[.int .u64 x.m.b, .bool x.m.s, .int .u64 x.h.b, .bool x.h.s, .int .u64 x.d.b, .bool x.d.s, .int .u64 x.n.b, .bool x.n.s, .int .u64 x.w.b, .bool x.w.s], .int .i64 0, .int .i64 0]) ∧ Below w.heap.size w w' := by
  obtain ⟨p0, e0⟩ := pf_fd h hc 0 (by decide)
  obtain ⟨p1, e1⟩ := pf_fd h hc 1 (by decide)
  obtain ⟨p2, e2⟩ := pf_fd h hc 2 (by decide)
  obtain ⟨p3, e3⟩ := pf_fd h hc 3 (by decide)
  obtain ⟨p4, e4⟩ := pf_fd h hc 4 (by decide)
  have hs : (⟨(specT x 5).toArray⟩ : ByteArray).size ≤ 256 := by
    have := specT_256 h hc
    show (specT x 5).toArray.size ≤ 256
    simpa using this
  have key := specParse_ok ⟨(specT x 5).toArray⟩ w _ _ _ _ _ _ _ _ _ _ _ _ _ _ _ hE h8 hs (okC_at (specT_okC h hc)) (words_back h hc) p0 p1 p2 p3 p4
  rw [show bitsI 0 0 (itF x 0) = (x.fd 0).b from e0, show bitsI 1 0 (itF x 1) = (x.fd 1).b from e1, show bitsI 2 0 (itF x 2) = (x.fd 2).b from e2, show bitsI 3 0 (itF x 3) = (x.fd 3).b from e3, show bitsI 4 0 (itF x 4) = (x.fd 4).b from e4] at key
  exact key

end Go.Proofs.YtkdejfedigiohaaGreatDoor

/- complinelaw20.ShowTurns: the walk. -/
namespace Go.Proofs.YtkdejfedigiohaaGreatDoor
open Go.RowKit Go.Proofs.YtkdejfedigiohaaGreatDoorW.PrintWords Go.Proofs.YtkdejfedigiohaaGreatDoorW.PrintLast Go.Proofs.YtkdejfedigiohaaGreatDoorW.PrintMore
set_option linter.unusedVariables false
set_option linter.unusedSimpArgs false


theorem chk_range {x : Sp} (h : (spChk x).2 ≠ 0) : 1 ≤ (spChk x).1 ∧ (spChk x).1 ≤ 5 := by
  unfold spChk at h ⊢
  split
  · simp
  · split
    · simp
    · split
      · simp
      · split
        · simp
        · split
          · simp
          · simp_all
/-- One spec's box, and the table. -/
structure OneI (w : World) (xb : Nat) (x : Sp) (W : World) : Prop where
  below : Below w.heap.size w W
  x : SpB W xb x
  tab : TabIn W
theorem OneI.on {w : World} {xb : Nat} {x : Sp} {W W' : World} (h : OneI w xb x W) (hb : Below W.heap.size W W') : OneI w xb x W' :=
  ⟨h.below.trans (hb.mono h.below.size), blk_below h.x hb, h.tab.on hb⟩

set_option maxRecDepth 100000 in
set_option maxHeartbeats 2000000 in
theorem turns_bad (x : Sp) (w : World) (hx : x.Ok) (h : (spChk x).2 ≠ 0) (hE : Env w) (hT : TabIn w) (h8 : 8 ≤ w.heap.size) :
    Calls Tryz.prog 12 #[.agg #[.int .u64 x.m.b, .bool x.m.s, .int .u64 x.h.b, .bool x.h.s, .int .u64 x.d.b, .bool x.d.s, .int .u64 x.n.b, .bool x.n.s, .int .u64 x.w.b, .bool x.w.s]] w fun e w' => e = .returned (.bool true) ∧ Below w.heap.size w w' := by
  have hr := chk_range h
  have hS := fun W => Lib.hid (spec_bad x W hx h)
  have hne : ((spChk x).2 != 0) = true := by simpa using h
  clear h
  have hTl := hT.lt
  have hTH := Lib.hid hT
  have hEH := Lib.hid hE
  clear hT hE
  generalize spChk x = c at *
  obtain ⟨c1, c2⟩ := c
  simp only at hS hne hr
  obtain ⟨hr1, hr2⟩ := hr
  go_enter Tryz.func12, Tryz.ntmps12
  go_wp2_with fail
  have hI0 : OneI w w.heap.size x (w.alloc (.cells #[.int .u64 x.m.b, .bool x.m.s, .int .u64 x.h.b, .bool x.h.s, .int .u64 x.d.b, .bool x.d.s, .int .u64 x.n.b, .bool x.n.s, .int .u64 x.w.b, .bool x.w.s] 26)) := by
    refine ⟨(Below.refl _ _).alloc (Nat.le_refl _) _, blk_new _ _, hTH.out.below ?_⟩
    rw [Below.heap_alloc _ _ _ hTl]
  have hE0 := hEH.out.below hI0.below
  generalize w.alloc (.cells #[.int .u64 x.m.b, .bool x.m.s, .int .u64 x.h.b, .bool x.h.s, .int .u64 x.d.b, .bool x.d.s, .int .u64 x.n.b, .bool x.n.s, .int .u64 x.w.b, .bool x.w.s] 26) = W1 at *
  refine (works20_ok W1 hE0 hI0.tab (Nat.le_trans h8 hI0.below.size)).mono ?_
  rintro e w1 ⟨rfl, hb⟩
  have hI1 := hI0.on hb
  clear hb hI0 hE0
  obtain ⟨d0, d1, d2, d3, d4, d5, d6, d7, d8, d9⟩ := SpB.spIn (x := x) hI1.x
  go_wp2_with fail
  refine (hS _).out.mono ?_
  rintro e w2 ⟨rfl, hb⟩
  have hB2 := (hI1.on hb).below
  clear hb hI1 d0 d1 d2 d3 d4 d5 d6 d7 d8 d9 hS
  go_wp2
  go_ret
  exact ⟨ret_bool (by simp), hB2⟩

set_option maxRecDepth 100000 in
set_option maxHeartbeats 2000000 in
theorem turns_good (x : Sp) (w : World) (hx : x.Ok) (h : (spChk x).2 = 0) (hE : Env w) (hT : TabIn w) (h8 : 8 ≤ w.heap.size) :
    Calls Tryz.prog 12 #[.agg #[.int .u64 x.m.b, .bool x.m.s, .int .u64 x.h.b, .bool x.h.s, .int .u64 x.d.b, .bool x.d.s, .int .u64 x.n.b, .bool x.n.s, .int .u64 x.w.b, .bool x.w.s]] w fun e w' => e = .returned (.bool true) ∧ Below w.heap.size w w' := by
  have hS := fun W hW => Lib.hid (spec_good x W hx h hW)
  have hP := fun W hW hW8 => Lib.hid (spec_back x W hx h hW hW8)
  have hQ := fun W => same_any x x W
  rw [show spSame x x = true from (spSame_iff x x).2 rfl] at hQ
  have hQ := fun W => Lib.hid (hQ W)
  clear h
  have hTl := hT.lt
  have hTH := Lib.hid hT
  have hEH := Lib.hid hE
  clear hT hE
  go_enter Tryz.func12, Tryz.ntmps12
  go_wp2_with fail
  have hI0 : OneI w w.heap.size x (w.alloc (.cells #[.int .u64 x.m.b, .bool x.m.s, .int .u64 x.h.b, .bool x.h.s, .int .u64 x.d.b, .bool x.d.s, .int .u64 x.n.b, .bool x.n.s, .int .u64 x.w.b, .bool x.w.s] 26)) := by
    refine ⟨(Below.refl _ _).alloc (Nat.le_refl _) _, blk_new _ _, hTH.out.below ?_⟩
    rw [Below.heap_alloc _ _ _ hTl]
  have hE0 := hEH.out.below hI0.below
  generalize w.alloc (.cells #[.int .u64 x.m.b, .bool x.m.s, .int .u64 x.h.b, .bool x.h.s, .int .u64 x.d.b, .bool x.d.s, .int .u64 x.n.b, .bool x.n.s, .int .u64 x.w.b, .bool x.w.s] 26) = W1 at *
  refine (works20_ok W1 hE0 hI0.tab (Nat.le_trans h8 hI0.below.size)).mono ?_
  rintro e w1 ⟨rfl, hb⟩
  have hI1 := hI0.on hb
  clear hb hI0 hE0
  obtain ⟨d0, d1, d2, d3, d4, d5, d6, d7, d8, d9⟩ := SpB.spIn (x := x) hI1.x
  go_wp2_with fail
  refine (hS _ hI1.tab).out.mono ?_
  rintro e w2 ⟨rfl, hb⟩
  have hI2 := hI1.on hb
  clear hb hI1 d0 d1 d2 d3 d4 d5 d6 d7 d8 d9 hS
  go_wp2_with fail
  refine (hP _ (hEH.out.below hI2.below) (Nat.le_trans h8 hI2.below.size)).out.mono ?_
  rintro e w3 ⟨rfl, hb⟩
  have hI3 := (hI2.on hb).on ((Below.refl _ _).alloc (Nat.le_refl _) (.cells #[.int .u64 x.m.b, .bool x.m.s, .int .u64 x.h.b, .bool x.h.s, .int .u64 x.d.b, .bool x.d.s, .int .u64 x.n.b, .bool x.n.s, .int .u64 x.w.b, .bool x.w.s] 26))
  have hY3 : SpB (w3.alloc (.cells #[.int .u64 x.m.b, .bool x.m.s, .int .u64 x.h.b, .bool x.h.s, .int .u64 x.d.b, .bool x.d.s, .int .u64 x.n.b, .bool x.n.s, .int .u64 x.w.b, .bool x.w.s] 26)) w3.heap.size x := blk_new _ _
  clear hb hI2 hP
  have hB3 := hI3.below
  obtain ⟨d0, d1, d2, d3, d4, d5, d6, d7, d8, d9⟩ := SpB.spIn (x := x) hI3.x
  obtain ⟨e0, e1, e2, e3, e4, e5, e6, e7, e8, e9⟩ := SpB.spIn (x := x) hY3
  clear hI3 hY3
  go_wp2_with fail
  refine (hQ _).out.mono ?_
  rintro e w4 ⟨rfl, hb⟩
  have hB4 := hB3.trans (hb.mono hB3.size)
  clear hb hB3 d0 d1 d2 d3 d4 d5 d6 d7 d8 d9 e0 e1 e2 e3 e4 e5 e6 e7 e8 e9 hQ
  go_wp2
  go_ret
  exact ⟨ret_bool (by simp), hB4⟩

theorem turns_any (x : Sp) (w : World) (hx : x.Ok) (hE : Env w) (hT : TabIn w) (h8 : 8 ≤ w.heap.size) :
    Calls Tryz.prog 12 #[.agg #[.int .u64 x.m.b, .bool x.m.s, .int .u64 x.h.b, .bool x.h.s, .int .u64 x.d.b, .bool x.d.s, .int .u64 x.n.b, .bool x.n.s, .int .u64 x.w.b, .bool x.w.s]] w fun e w' => e = .returned (.bool true) ∧ Below w.heap.size w w' := by
  by_cases h : (spChk x).2 = 0
  · exact turns_good x w hx h hE hT h8
  · exact turns_bad x w hx h hE hT h8

end Go.Proofs.YtkdejfedigiohaaGreatDoor
