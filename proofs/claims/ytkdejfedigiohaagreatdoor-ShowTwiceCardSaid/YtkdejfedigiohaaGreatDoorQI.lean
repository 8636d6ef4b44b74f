/- spec.Parse and show.Tidy at whatever text; what is parsed may be shown. What is parsed is a field, and a spec: plain Lean. complinelaw20.ShowTwice: the walk. What the rows list of errors' own variable: ErrV at the row's worlds; a string argument opened. -/
import Derived.Test.YtkdejfedigiohaaGreatDoorQH
import Derived.Test.YtkdejfedigiohaaGreatDoorQE
import Derived.Test.YtkdejfedigiohaaGreatDoorQR
import Derived.Test.YtkdejfedigiohaaGreatDoorQG
/- spec.Parse and show.Tidy at whatever text; what is parsed may be shown. -/
namespace Go.Proofs.YtkdejfedigiohaaGreatDoor
set_option linter.unusedVariables false
set_option linter.unusedSimpArgs false
open Go.RowKit

/-- What is wrong with a text's words. -/
def wordsE (s : List UInt8) : Int := if 256 < s.length then 3 else if s.all okC = false then 2 else if (fieldsL blankU [] s).length ≠ 5 then 2 else 0
/-- What five words come to. -/
def fiveF (t0 t1 t2 t3 t4 : List UInt8) : Sp × Int × Int :=
  if (parseF 0 t0).2.2 ≠ 0 then (sp0, 1, (parseF 0 t0).2.2) else if (parseF 1 t1).2.2 ≠ 0 then (sp0, 2, (parseF 1 t1).2.2) else if (parseF 2 t2).2.2 ≠ 0 then (sp0, 3, (parseF 2 t2).2.2)
  else if (parseF 3 t3).2.2 ≠ 0 then (sp0, 4, (parseF 3 t3).2.2) else if (parseF 4 t4).2.2 ≠ 0 then (sp0, 5, (parseF 4 t4).2.2)
  else (⟨⟨(parseF 0 t0).1, (parseF 0 t0).2.1⟩, ⟨(parseF 1 t1).1, (parseF 1 t1).2.1⟩, ⟨(parseF 2 t2).1, (parseF 2 t2).2.1⟩, ⟨(parseF 3 t3).1, (parseF 3 t3).2.1⟩, ⟨(parseF 4 t4).1, (parseF 4 t4).2.1⟩⟩, 0, 0)
/-- What spec.Parse answers. -/
def specF (s : List UInt8) : Sp × Int × Int := if wordsE s ≠ 0 then (sp0, 0, wordsE s) else match fieldsL blankU [] s with
  | [t0, t1, t2, t3, t4] => fiveF t0 t1 t2 t3 t4
  | _ => (sp0, 0, 2)

theorem fieldsL_le (p : UInt8 → Bool) : ∀ (l cur : List UInt8), ∀ x ∈ fieldsL p cur l, x.length ≤ cur.length + l.length
  | [], cur, x, h => by
    unfold fieldsL at h
    split at h
    · simp at h
    · simp at h; subst h; simp
  | c :: l, cur, x, h => by
    unfold fieldsL at h
    split at h
    · split at h
      · have := fieldsL_le p l [] x h; simp at this ⊢; omega
      · rcases List.mem_cons.1 h with rfl | h
        · simp
        · have := fieldsL_le p l [] x h; simp at this ⊢; omega
    · have := fieldsL_le p l (cur ++ [c]) x h; simp at this ⊢; omega
theorem fp_any (t : ByteArray) (kind : Int) (h0 : 0 ≤ kind) (h1 : kind ≤ 4) (hs : t.size ≤ 256) : FP t kind (parseF kind t.data.toList).1 (parseF kind t.data.toList).2.1 (parseF kind t.data.toList).2.2 :=
  fun W hE hEr h8 => parse_any t kind W h0 h1 hE hEr h8 hs
theorem fp_bad {t : ByteArray} {kind : Int} (h0 : 0 ≤ kind) (h1 : kind ≤ 4) (hs : t.size ≤ 256) (h : (parseF kind t.data.toList).2.2 ≠ 0) : FP t kind 0 false (parseF kind t.data.toList).2.2 := by
  have key := fp_any t kind h0 h1 hs
  have e : parseF kind t.data.toList = (0, false, (parseF kind t.data.toList).2.2) := by
    unfold parseF at h ⊢
    split
    · rename_i hc; rw [if_pos hc] at h; exact absurd rfl h
    · rfl
  rw [show (parseF kind t.data.toList).1 = 0 by rw [e], show (parseF kind t.data.toList).2.1 = false by rw [e]] at key
  exact key
theorem fp_good {t : ByteArray} {kind : Int} (h0 : 0 ≤ kind) (h1 : kind ≤ 4) (hs : t.size ≤ 256) (h : ¬ (parseF kind t.data.toList).2.2 ≠ 0) : FP t kind (parseF kind t.data.toList).1 (parseF kind t.data.toList).2.1 0 := by
  have key := fp_any t kind h0 h1 hs
  rw [show (parseF kind t.data.toList).2.2 = 0 by simpa using h] at key
  exact key

theorem first_no (l : List UInt8) (h : l.all okC = false) : ∃ q, ∃ hq : q < l.length, okC l[q] = false ∧ ∀ j (hj : j < l.length), j < q → okC l[j] = true := by
  induction l with
  | nil => simp at h
  | cons c l ih =>
    by_cases hc : okC c = true
    · rw [List.all_cons, hc, Bool.true_and] at h
      obtain ⟨q, hq, hb, hg⟩ := ih h
      refine ⟨q + 1, by simp; omega, by simpa using hb, fun j hj hjq => ?_⟩
      cases j with
      | zero => simpa using hc
      | succ j => simpa using hg j (by simpa using hj) (by omega)
    · exact ⟨0, by simp, by simpa using hc, fun j hj hj0 => by omega⟩
theorem ok_all {s : ByteArray} (h : s.data.toList.all okC = true) : ∀ i (hi : i < s.size), s[i].toNat < 128 ∧ knownI (s[i].toNat : Int) = true := by
  intro i hi
  have hz := size_toList s
  have this : okC s[i] = true := List.all_eq_true.1 h s.data.toList[i] (List.getElem_mem (by omega))
  unfold okC at this
  simp only [Bool.and_eq_true, decide_eq_true_eq] at this
  exact this
theorem specParse_any (s : ByteArray) (w : World) (hE : Env w) (hEr : ErrV w) (h8 : 8 ≤ w.heap.size) :
    Calls Tryz.prog 34 #[.string s] w fun e w' => e = .returned (.tuple #[.agg #[.int .u64 (specF s.data.toList).1.m.b, .bool (specF s.data.toList).1.m.s, .int .u64 (specF s.data.toList).1.h.b, .bool (specF s.data.toList).1.h.s, .int .u64 (specF s.data.toList).1.d.b, .bool (specF s.data.toList).1.d.s, .int .u64 (specF s.data.toList).1.n.b, .bool (specF s.data.toList).1.n.s, .int .u64 (specF s.data.toList).1.w.b, .bool (specF s.data.toList).1.w.s], .int .i64 (specF s.data.toList).2.1, .int .i64 (specF s.data.toList).2.2]) ∧ Below w.heap.size w w' := by
  have hz := size_toList s
  unfold specF
  by_cases hw : wordsE s.data.toList ≠ 0
  · rw [if_pos hw]
    refine spec_words s _ w hw (fun W => ?_)
    unfold wordsE at hw ⊢
    by_cases h1 : 256 < s.data.toList.length
    · rw [if_pos h1]
      exact words_long s W (by omega)
    · rw [if_neg h1] at hw ⊢
      by_cases h2 : s.data.toList.all okC = false
      · rw [if_pos h2]
        obtain ⟨q, hq, hb, hg⟩ : ∃ q, ∃ hq : q < s.data.toList.length, okC s.data.toList[q] = false ∧ ∀ j (hj : j < s.data.toList.length), j < q → okC s.data.toList[j] = true := first_no s.data.toList h2
        refine words_form s W (by omega) q (by omega) (fun i hi hiq => ?_) ?_
        · have this : okC s[i] = true := hg i (by omega) hiq
          unfold okC at this
          simp only [Bool.and_eq_true, decide_eq_true_eq] at this
          exact this
        · intro hc
          have this : okC s[q] = true := by unfold okC; simp only [Bool.and_eq_true, decide_eq_true_eq]; exact hc
          have hb' : okC s[q] = false := hb
          rw [hb'] at this; cases this
      · rw [if_neg h2] at hw ⊢
        have hk := ok_all (by simpa using h2)
        by_cases h3 : (fieldsL blankU [] s.data.toList).length ≠ 5
        · rw [if_pos h3]
          refine words_count s W (by omega) hk ?_
          rw [← wordsL_eq s (fun i hi => (hk i hi).1), List.length_map] at h3
          exact h3
        · rw [if_neg h3] at hw; exact absurd rfl hw
  · rw [if_neg hw]
    have hw0 : wordsE s.data.toList = 0 := by simpa using hw
    unfold wordsE at hw0
    by_cases h1 : 256 < s.data.toList.length
    · rw [if_pos h1] at hw0; cases hw0
    · rw [if_neg h1] at hw0
      by_cases h2 : s.data.toList.all okC = false
      · rw [if_pos h2] at hw0; cases hw0
      · rw [if_neg h2] at hw0
        have hk := ok_all (s := s) (by simpa using h2)
        have hwl := wordsL_eq s (fun i hi => (hk i hi).1)
        have hle := fieldsL_le blankU s.data.toList []
        by_cases h3 : (fieldsL blankU [] s.data.toList).length ≠ 5
        · rw [if_pos h3] at hw0; cases hw0
        · have h5 : (wordsL s).length = 5 := by rw [← List.length_map, hwl]; simpa using h3
          obtain ⟨t0, t1, t2, t3, t4, ht⟩ : ∃ t0 t1 t2 t3 t4, wordsL s = [t0, t1, t2, t3, t4] := by
            match hws : wordsL s, h5 with
            | [a, b, c, d, e], _ => exact ⟨a, b, c, d, e, rfl⟩
          rw [ht] at hwl
          rw [← hwl] at hle ⊢
          simp only [List.map_cons, List.map_nil] at hle ⊢
          have z : ∀ t ∈ [t0, t1, t2, t3, t4], t.size ≤ 256 := fun t ht => by
            have := hle t.data.toList (by simp at ht ⊢; rcases ht with rfl | rfl | rfl | rfl | rfl <;> simp)
            have := size_toList t
            simp at *
            omega
          have z0 := z t0 (by simp)
          have z1 := z t1 (by simp)
          have z2 := z t2 (by simp)
          have z3 := z t3 (by simp)
          have z4 := z t4 (by simp)
          have hs6 : s.size ≤ 256 := by omega
          unfold fiveF
          by_cases c0 : (parseF 0 t0.data.toList).2.2 ≠ 0
          · rw [if_pos c0]
            exact spec_bad0 s _ w c0 t0 t1 t2 t3 t4 false false false false false 0 0 0 0 0 hE hEr h8 hs6 hk ht (fp_bad (by decide) (by decide) z0 c0)
          · rw [if_neg c0]
            have g0 := fp_good (by decide) (by decide) z0 c0
            by_cases c1 : (parseF 1 t1.data.toList).2.2 ≠ 0
            · rw [if_pos c1]
              exact spec_bad1 s _ w c1 t0 t1 t2 t3 t4 _ false false false false _ 0 0 0 0 hE hEr h8 hs6 hk ht g0 (fp_bad (by decide) (by decide) z1 c1)
            · rw [if_neg c1]
              have g1 := fp_good (by decide) (by decide) z1 c1
              by_cases c2 : (parseF 2 t2.data.toList).2.2 ≠ 0
              · rw [if_pos c2]
                exact spec_bad2 s _ w c2 t0 t1 t2 t3 t4 _ _ false false false _ _ 0 0 0 hE hEr h8 hs6 hk ht g0 g1 (fp_bad (by decide) (by decide) z2 c2)
              · rw [if_neg c2]
                have g2 := fp_good (by decide) (by decide) z2 c2
                by_cases c3 : (parseF 3 t3.data.toList).2.2 ≠ 0
                · rw [if_pos c3]
                  exact spec_bad3 s _ w c3 t0 t1 t2 t3 t4 _ _ _ false false _ _ _ 0 0 hE hEr h8 hs6 hk ht g0 g1 g2 (fp_bad (by decide) (by decide) z3 c3)
                · rw [if_neg c3]
                  have g3 := fp_good (by decide) (by decide) z3 c3
                  by_cases c4 : (parseF 4 t4.data.toList).2.2 ≠ 0
                  · rw [if_pos c4]
                    exact spec_bad4 s _ w c4 t0 t1 t2 t3 t4 _ _ _ _ false _ _ _ _ 0 hE hEr h8 hs6 hk ht g0 g1 g2 g3 (fp_bad (by decide) (by decide) z4 c4)
                  · rw [if_neg c4]
                    exact spec_fine s w t0 t1 t2 t3 t4 _ _ _ _ _ _ _ _ _ _ hE hEr h8 hs6 hk ht g0 g1 g2 g3 (fp_good (by decide) (by decide) z4 c4)

end Go.Proofs.YtkdejfedigiohaaGreatDoor

/- What is parsed is a field, and a spec: plain Lean. -/
namespace Go.Proofs.YtkdejfedigiohaaGreatDoor
set_option linter.unusedVariables false
set_option linter.unusedSimpArgs false
open Go.RowKit

theorem lex_le (kind : Int) : lexLo kind ≤ lexHi kind := by unfold lexLo lexHi; repeat' split <;> omega
theorem ends_bd {kind : Int} {a : List UInt8} (h : (endsF kind a).2.2 = 0) : lexLo kind ≤ (endsF kind a).1 ∧ (endsF kind a).1 ≤ (endsF kind a).2.1 ∧ (endsF kind a).2.1 ≤ lexHi kind := by
  unfold endsF at h ⊢
  by_cases hst : a = [42]
  · rw [if_pos hst]; exact ⟨Int.le_refl _, lex_le kind, Int.le_refl _⟩
  · rw [if_neg hst] at h ⊢
    split at h
    · rename_i e0 hs
      by_cases c0 : (valF kind e0).2 = 0
      · have hb := valF_bd c0
        rw [if_neg (by simpa using c0)]
        exact ⟨hb.1, Int.le_refl _, hb.2⟩
      · rw [if_pos c0] at h; exact absurd h c0
    · rename_i e0 e1 hs
      by_cases c0 : (valF kind e0).2 = 0
      · have hb := valF_bd c0
        rw [if_neg (by simpa using c0)] at h ⊢
        by_cases c1 : (valF kind e1).2 = 0
        · have hb1 := valF_bd c1
          rw [if_neg (by simpa using c1)] at h ⊢
          by_cases c2 : (valF kind e1).1 < (valF kind e0).1
          · rw [if_pos c2] at h; simp at h
          · rw [if_neg c2]; exact ⟨hb.1, by simp only; omega, hb1.2⟩
        · rw [if_pos c1] at h; exact absurd h c1
      · rw [if_pos c0] at h; exact absurd h c0
    · simp at h
theorem item_bd {kind : Int} {t : List UInt8} (h : itemE kind t = 0) : lexLo kind ≤ (itemF kind t).1 ∧ (itemF kind t).1 ≤ (itemF kind t).2.1 ∧ (itemF kind t).2.1 ≤ lexHi kind ∧ 1 ≤ (itemF kind t).2.2.1 := by
  unfold itemE itemF at h
  unfold itemF
  by_cases c0 : (47 : UInt8) ∈ (Lib.cut t [47]).2.1 ∨ 2 < (splitL 45 (Lib.cut t [47]).1).length ∨ ((Lib.cut t [47]).2.2 = true ∧ (Lib.cut t [47]).1 ≠ [42] ∧ (splitL 45 (Lib.cut t [47]).1).length < 2)
  · rw [if_pos c0] at h; simp at h
  · rw [if_neg c0] at h ⊢
    by_cases c1 : (endsF kind (Lib.cut t [47]).1).2.2 = 0
    · have hb := ends_bd c1
      rw [if_neg (by simpa using c1)] at h ⊢
      by_cases c2 : (Lib.cut t [47]).2.2 = false
      · rw [if_pos c2]; exact ⟨hb.1, hb.2.1, hb.2.2, by simp⟩
      · rw [if_neg c2] at h ⊢
        by_cases c3 : (numL (Lib.cut t [47]).2.1).2 = 0
        · rw [if_neg (by simpa using c3)] at h ⊢
          have hn := numL_bd (show numL (Lib.cut t [47]).2.1 = ((numL (Lib.cut t [47]).2.1).1, 0) by rw [← c3])
          by_cases c4 : (numL (Lib.cut t [47]).2.1).1 = 0
          · rw [if_pos c4] at h; simp at h
          · rw [if_neg c4]; exact ⟨hb.1, hb.2.1, hb.2.2, by simp only; omega⟩
        · rw [if_pos c3] at h; exact absurd h c3
    · rw [if_pos c1] at h; exact absurd h c1
theorem day_in {kind v : Int} (h0 : 0 ≤ kind) (h1 : kind ≤ 4) (hlo : lexLo kind ≤ v) (hhi : v ≤ lexHi kind) : loI kind ≤ dayOf kind v ∧ dayOf kind v ≤ hiI kind := by
  unfold dayOf
  by_cases h4 : kind = 4
  · subst h4
    rw [if_pos rfl]
    have e1 : loI 4 = 0 := by decide
    have e2 : hiI 4 = 6 := by decide
    rw [e1, e2]
    omega
  · rw [if_neg h4, ← lex_lo]
    refine ⟨hlo, ?_⟩
    have : lexHi kind = hiI kind := by unfold lexHi hiI; repeat' split <;> omega
    omega
theorem vals_in {kind hi st : Int} (h0 : 0 ≤ kind) (h1 : kind ≤ 4) (hhi : hi ≤ lexHi kind) (hst : 1 ≤ st) : ∀ (k : Nat) (v : Int), lexLo kind ≤ v → ∀ x ∈ valsF kind hi st k v, loI kind ≤ x ∧ x ≤ hiI kind
  | 0, v, _, x, hx => by simp [valsF] at hx
  | k + 1, v, hv, x, hx => by
    unfold valsF at hx
    split at hx
    · rcases List.mem_cons.1 hx with rfl | hx
      · exact day_in h0 h1 hv (by omega)
      · exact vals_in h0 h1 hhi hst k (v + st) (by omega) x hx
    · simp at hx
theorem bitsV_nat : ∀ (l : List Int) (b : Nat), b < 18446744073709551616 → (∀ v ∈ l, 0 ≤ v ∧ v < 64) → ∃ c : Nat, bitsV (b : Int) l = (c : Int) ∧ c < 18446744073709551616 ∧ ∀ u : Nat, c.testBit u = true ↔ (b.testBit u = true ∨ (u : Int) ∈ l)
  | [], b, hb, _ => ⟨b, rfl, hb, fun u => by simp⟩
  | v :: l, b, hb, h => by
    obtain ⟨h0, h1⟩ := h v (by simp)
    obtain ⟨n, rfl⟩ := Int.eq_ofNat_of_zero_le h0
    obtain ⟨c, e, hc, hu⟩ := bitsV_nat l (b ||| 2 ^ n) (or_lt hb (by omega)) (fun x hx => h x (by simp [hx]))
    refine ⟨c, ?_, hc, fun u => ?_⟩
    · rw [← e]
      show bitsV (orB (b : Int) (n : Int)) l = _
      rw [orB_nat b n hb (by omega)]
    · rw [hu, or_bit]
      simp only [Bool.or_eq_true, decide_eq_true_eq, List.mem_cons, Int.natCast_inj, or_assoc]
      rw [show (n = u) = (u = n) from propext ⟨fun h => h.symm, fun h => h.symm⟩]
theorem hiI_le (kind : Int) : hiI kind ≤ 59 := by unfold hiI; repeat' split <;> omega
theorem loI_nn (kind : Int) : 0 ≤ loI kind := by unfold loI; split <;> omega
theorem items_good (kind : Int) (h0 : 0 ≤ kind) (h1 : kind ≤ 4) : ∀ (ts : List (List UInt8)) (b : Nat), b < 18446744073709551616 → (∀ u : Nat, b.testBit u = true → loI kind ≤ (u : Int) ∧ (u : Int) ≤ hiI kind) → (itemsF kind (b : Int) ts).2 = 0 →
    ∃ c : Nat, (itemsF kind (b : Int) ts).1 = (c : Int) ∧ c < 18446744073709551616 ∧ (∀ u : Nat, c.testBit u = true → loI kind ≤ (u : Int) ∧ (u : Int) ≤ hiI kind) ∧ ((∃ u, b.testBit u = true) ∨ ts ≠ [] → ∃ u, c.testBit u = true)
  | [], b, hb, hi, _ => ⟨b, rfl, hb, hi, fun h => h.elim id (fun h => absurd rfl h)⟩
  | t :: ts, b, hb, hi, he => by
    unfold itemsF at he ⊢
    by_cases ht : itemE kind t = 0
    · rw [if_neg (by simpa using ht)] at he ⊢
      obtain ⟨a1, a2, a3, a4⟩ := item_bd ht
      have hv := vals_in h0 h1 a3 a4 64 (itemF kind t).1 a1
      have q1 := hiI_le kind
      have q2 := loI_nn kind
      obtain ⟨c, e, hc, hu⟩ := bitsV_nat (valsI kind (itemF kind t).1 (itemF kind t).2.1 (itemF kind t).2.2.1) b hb (fun v hvm => by have := hv v hvm; omega)
      rw [e] at he ⊢
      have hc2 : ∀ u : Nat, c.testBit u = true → loI kind ≤ (u : Int) ∧ (u : Int) ≤ hiI kind := fun u hu' => by
        rcases (hu u).1 hu' with h | h
        · exact hi u h
        · exact hv _ h
      obtain ⟨d, f1, f2, f3, f4⟩ := items_good kind h0 h1 ts c hc hc2 he
      refine ⟨d, f1, f2, f3, fun _ => f4 (.inl ?_)⟩
      have hd := day_in h0 h1 a1 (by omega : (itemF kind t).1 ≤ lexHi kind)
      obtain ⟨n, hn⟩ := Int.eq_ofNat_of_zero_le (show 0 ≤ dayOf kind (itemF kind t).1 by omega)
      refine ⟨n, (hu n).2 (.inr ?_)⟩
      rw [← hn]
      unfold valsI valsF
      rw [if_pos a2]
      simp
    · rw [if_pos ht] at he; exact absurd he ht
theorem and_zero (B A : Nat) (hA : A < 2 ^ 64) (h : ∀ j, B.testBit j = true → A.testBit j = true) : B &&& (18446744073709551615 - A) = 0 := by
  rw [show 18446744073709551615 - A = 2 ^ 64 - (A + 1) by omega]
  apply Nat.eq_of_testBit_eq
  intro j
  rw [Nat.testBit_and, Nat.zero_testBit, Nat.testBit_two_pow_sub_succ hA]
  cases hb : B.testBit j
  · rfl
  · rw [h j hb]; simp
theorem parse_good {kind : Int} (h0 : 0 ≤ kind) (h1 : kind ≤ 4) {t : List UInt8} (h : (parseF kind t).2.2 = 0) : U64 (parseF kind t).1 ∧ chkI (parseF kind t).1 (parseF kind t).2.1 kind = 0 := by
  unfold parseF at h ⊢
  by_cases hc : (itemsF kind 0 (splitL 44 t)).2 = 0
  · rw [if_pos hc]
    obtain ⟨c, e, hlt, hin, hne⟩ := items_good kind h0 h1 (splitL 44 t) 0 (by decide) (fun u hu => by simp at hu) hc
    have e' : (itemsF kind 0 (splitL 44 t)).1 = (c : Int) := e
    obtain ⟨u, hu⟩ := hne (.inr (splitL_ne 44 t))
    have hc0 : c ≠ 0 := by rintro rfl; simp at hu
    simp only
    rw [e']
    refine ⟨⟨by omega, by omega⟩, ?_⟩
    have hAl := allB_lt kind
    unfold chkI
    rw [if_neg (by omega), if_neg (by omega), if_neg (by
      simp only [ne_eq, Decidable.not_not, Int.toNat_natCast]
      exact and_zero c (allB kind).toNat (by omega) (fun j hj => (allB_bit kind h0 h1 j).2 (hin j hj)))]
    rw [if_neg]
    rintro ⟨hs, hb⟩
    apply hb
    have ht : t = [42] := by simpa using hs
    subst ht
    rw [← e', ← bits_star kind h0 h1]
    have hit : itemF kind [42] = (lexLo kind, lexHi kind, 1, 0) := by
      unfold itemF
      rw [show Lib.cut [42] [47] = ([42], [], false) by decide +kernel]
      rw [if_neg (by decide)]
      simp [endsF]
    rw [show splitL 44 [42] = [[42]] by decide]
    simp only [itemsF, itemE, hit]
    rfl
  · rw [if_neg hc] at h; exact absurd h hc

theorem specF_good {s : List UInt8} (h : (specF s).2.2 = 0) : (specF s).1.Ok ∧ (spChk (specF s).1).2 = 0 ∧ (specF s).2.1 = 0 := by
  unfold specF at h ⊢
  by_cases hw : wordsE s ≠ 0
  · rw [if_pos hw] at h; exact absurd h hw
  · rw [if_neg hw] at h ⊢
    split at h
    · rename_i t0 t1 t2 t3 t4 hf
      unfold fiveF at h ⊢
      by_cases c0 : (parseF 0 t0).2.2 ≠ 0
      · rw [if_pos c0] at h; exact absurd h c0
      · rw [if_neg c0] at h ⊢
        by_cases c1 : (parseF 1 t1).2.2 ≠ 0
        · rw [if_pos c1] at h; exact absurd h c1
        · rw [if_neg c1] at h ⊢
          by_cases c2 : (parseF 2 t2).2.2 ≠ 0
          · rw [if_pos c2] at h; exact absurd h c2
          · rw [if_neg c2] at h ⊢
            by_cases c3 : (parseF 3 t3).2.2 ≠ 0
            · rw [if_pos c3] at h; exact absurd h c3
            · rw [if_neg c3] at h ⊢
              by_cases c4 : (parseF 4 t4).2.2 ≠ 0
              · rw [if_pos c4] at h; exact absurd h c4
              · rw [if_neg c4]
                have g0 := parse_good (kind := 0) (by decide) (by decide) (t := t0) (by simpa using c0)
                have g1 := parse_good (kind := 1) (by decide) (by decide) (t := t1) (by simpa using c1)
                have g2 := parse_good (kind := 2) (by decide) (by decide) (t := t2) (by simpa using c2)
                have g3 := parse_good (kind := 3) (by decide) (by decide) (t := t3) (by simpa using c3)
                have g4 := parse_good (kind := 4) (by decide) (by decide) (t := t4) (by simpa using c4)
                refine ⟨⟨g0.1, g1.1, g2.1, g3.1, g4.1⟩, ?_, rfl⟩
                unfold spChk
                simp only [g0.2, g1.2, g2.2, g3.2, g4.2]
                simp
    · simp at h
theorem specF_bad {s : List UInt8} (h : (specF s).2.2 ≠ 0) : 0 ≤ (specF s).2.1 ∧ (specF s).2.1 ≤ 5 := by
  unfold specF at h ⊢
  by_cases hw : wordsE s ≠ 0
  · rw [if_pos hw]; simp
  · rw [if_neg hw] at h ⊢
    split
    · unfold fiveF
      repeat' (first | (split) | (simp; done))
    · simp

end Go.Proofs.YtkdejfedigiohaaGreatDoor

/- complinelaw20.ShowTwice: the walk. -/
namespace Go.Proofs.YtkdejfedigiohaaGreatDoor
open Go.RowKit Go.Proofs.YtkdejfedigiohaaGreatDoorW.PrintWords Go.Proofs.YtkdejfedigiohaaGreatDoorW.PrintLast Go.Proofs.YtkdejfedigiohaaGreatDoorW.PrintMore
set_option linter.unusedVariables false
set_option linter.unusedSimpArgs false


set_option maxRecDepth 100000 in
set_option maxHeartbeats 2000000 in
theorem twice_long (s : ByteArray) (w : World) (hE : Env w) (hT : TabIn w) (h8 : 8 ≤ w.heap.size) (hs : 300 < s.size) :
    Calls Tryz.prog 11 #[.string s] w fun e w' => e = .returned (.bool true) ∧ Below w.heap.size w w' := by
  have hs' : (300 : Int) < (s.size : Int) := by omega
  go_enter Tryz.func11, Tryz.ntmps11
  go_wp2_with fail
  refine (works20_ok w hE hT h8).mono ?_
  rintro e w1 ⟨rfl, hb⟩
  go_wp2
  go_ret
  exact ⟨rfl, hb⟩

set_option maxRecDepth 100000 in
set_option maxHeartbeats 2000000 in
theorem twice_bad (s : ByteArray) (x : Sp) (n e0 : Int) (w : World) (hE : Env w) (hEr : ErrV w) (hT : TabIn w) (h8 : 8 ≤ w.heap.size) (hs : s.size ≤ 300) (he : e0 ≠ 0) (hn0 : 0 ≤ n) (hn5 : n ≤ 5)
    (hP : ∀ W, Env W → ErrV W → 8 ≤ W.heap.size → Calls Tryz.prog 34 #[.string s] W fun e w' => e = .returned (.tuple #[.agg #[.int .u64 x.m.b, .bool x.m.s, .int .u64 x.h.b, .bool x.h.s, .int .u64 x.d.b, .bool x.d.s, .int .u64 x.n.b, .bool x.n.s, .int .u64 x.w.b, .bool x.w.s], .int .i64 n, .int .i64 e0]) ∧ Below W.heap.size W w') :
    Calls Tryz.prog 11 #[.string s] w fun e w' => e = .returned (.bool true) ∧ Below w.heap.size w w' := by
  have hs' : (s.size : Int) ≤ 300 := by omega
  have hTi := fun W h1 h2 h3 => Lib.hid (tidy_bad s x n e0 W he (hP W h1 h2 h3))
  have hne : (e0 != 0) = true := by simpa using he
  have hEH := Lib.hid hE
  have hErH := Lib.hid hEr
  have hTH := Lib.hid hT
  clear hP he hE hEr hT
  go_enter Tryz.func11, Tryz.ntmps11
  go_wp2_with fail
  refine (works20_ok w hEH.out hTH.out h8).mono ?_
  rintro e w1 ⟨rfl, hb⟩
  go_wp2_with fail
  refine (hTi _ (hEH.out.below hb) (hErH.out.on hb) (Nat.le_trans h8 hb.size)).out.mono ?_
  rintro e w2 ⟨rfl, hb2⟩
  have hB := hb.trans (hb2.mono hb.size)
  clear hb hb2 hTi
  go_wp2
  go_ret
  exact ⟨ret_bool (by simp), hB⟩

set_option maxRecDepth 100000 in
set_option maxHeartbeats 2000000 in
theorem twice_good (s : ByteArray) (x : Sp) (w : World) (hE : Env w) (hEr : ErrV w) (hT : TabIn w) (h8 : 8 ≤ w.heap.size) (hs : s.size ≤ 300) (hx : x.Ok) (hc : (spChk x).2 = 0)
    (hP : ∀ W, Env W → ErrV W → 8 ≤ W.heap.size → Calls Tryz.prog 34 #[.string s] W fun e w' => e = .returned (.tuple #[.agg #[.int .u64 x.m.b, .bool x.m.s, .int .u64 x.h.b, .bool x.h.s, .int .u64 x.d.b, .bool x.d.s, .int .u64 x.n.b, .bool x.n.s, .int .u64 x.w.b, .bool x.w.s], .int .i64 0, .int .i64 0]) ∧ Below W.heap.size W w') :
    Calls Tryz.prog 11 #[.string s] w fun e w' => e = .returned (.bool true) ∧ Below w.heap.size w w' := by
  have hs' : (s.size : Int) ≤ 300 := by omega
  have e1 : specI x = (specT x 5, 0, 0) := by unfold specI; rw [if_pos hc]
  have hT1 := fun W h1 h2 h3 h4 => tidy_good s x 0 W hx h4 (hP W h1 h2 h3)
  have hT2 := fun W h1 h3 h4 => tidy_good ⟨(specT x 5).toArray⟩ x 0 W hx h4 (spec_back x W hx hc h1 h3)
  have hP2 := fun W h1 h3 => Lib.hid (spec_back x W hx hc h1 h3)
  rw [e1] at hT1 hT2
  have hT1 := fun W h1 h2 h3 h4 => Lib.hid (hT1 W h1 h2 h3 h4)
  have hT2 := fun W h1 h3 h4 => Lib.hid (hT2 W h1 h3 h4)
  have hP1 := fun W h1 h2 h3 => Lib.hid (hP W h1 h2 h3)
  have hEH := Lib.hid hE
  have hErH := Lib.hid hEr
  have hTH := Lib.hid hT
  clear hP hE hEr hT e1 hc
  generalize specT x 5 = t at *
  go_enter Tryz.func11, Tryz.ntmps11
  go_wp2_with fail
  refine (works20_ok w hEH.out hTH.out h8).mono ?_
  rintro e w1 ⟨rfl, hb⟩
  go_wp2_with fail
  refine (hT1 _ (hEH.out.below hb) (hErH.out.on hb) (Nat.le_trans h8 hb.size) (hTH.out.on hb)).out.mono ?_
  rintro e w2 ⟨rfl, hb2⟩
  have hB := hb.trans (hb2.mono hb.size)
  clear hb hb2 hT1
  go_wp2_with fail
  refine (hT2 _ (hEH.out.below hB) (Nat.le_trans h8 hB.size) (hTH.out.on hB)).out.mono ?_
  rintro e w3 ⟨rfl, hb3⟩
  have hB3 := hB.trans (hb3.mono hB.size)
  clear hB hb3 hT2
  go_wp2_with fail
  refine (hP1 _ (hEH.out.below hB3) (hErH.out.on hB3) (Nat.le_trans h8 hB3.size)).out.mono ?_
  rintro e w4 ⟨rfl, hb4⟩
  have hB4 : Below w.heap.size w (w4.alloc (.cells #[.int .u64 x.m.b, .bool x.m.s, .int .u64 x.h.b, .bool x.h.s, .int .u64 x.d.b, .bool x.d.s, .int .u64 x.n.b, .bool x.n.s, .int .u64 x.w.b, .bool x.w.s] 26)) := (hB3.trans (hb4.mono hB3.size)).alloc (hB3.trans (hb4.mono hB3.size)).size _
  have hX4 : SpB (w4.alloc (.cells #[.int .u64 x.m.b, .bool x.m.s, .int .u64 x.h.b, .bool x.h.s, .int .u64 x.d.b, .bool x.d.s, .int .u64 x.n.b, .bool x.n.s, .int .u64 x.w.b, .bool x.w.s] 26)) w4.heap.size x := blk_new _ _
  clear hB3 hb4 hP1
  go_wp2_with fail
  generalize w4.alloc (.cells #[.int .u64 x.m.b, .bool x.m.s, .int .u64 x.h.b, .bool x.h.s, .int .u64 x.d.b, .bool x.d.s, .int .u64 x.n.b, .bool x.n.s, .int .u64 x.w.b, .bool x.w.s] 26) = W5 at *
  refine (hP2 _ (hEH.out.below hB4) (Nat.le_trans h8 hB4.size)).out.mono ?_
  rintro e w6 ⟨rfl, hb6⟩
  have hB6 : Below w.heap.size w (w6.alloc (.cells #[.int .u64 x.m.b, .bool x.m.s, .int .u64 x.h.b, .bool x.h.s, .int .u64 x.d.b, .bool x.d.s, .int .u64 x.n.b, .bool x.n.s, .int .u64 x.w.b, .bool x.w.s] 26)) := (hB4.trans (hb6.mono hB4.size)).alloc (hB4.trans (hb6.mono hB4.size)).size _
  have hX6 : SpB (w6.alloc (.cells #[.int .u64 x.m.b, .bool x.m.s, .int .u64 x.h.b, .bool x.h.s, .int .u64 x.d.b, .bool x.d.s, .int .u64 x.n.b, .bool x.n.s, .int .u64 x.w.b, .bool x.w.s] 26)) w4.heap.size x := blk_alloc (blk_below hX4 hb6) _
  have hY6 : SpB (w6.alloc (.cells #[.int .u64 x.m.b, .bool x.m.s, .int .u64 x.h.b, .bool x.h.s, .int .u64 x.d.b, .bool x.d.s, .int .u64 x.n.b, .bool x.n.s, .int .u64 x.w.b, .bool x.w.s] 26)) w6.heap.size x := blk_new _ _
  obtain ⟨c0, c1, c2, c3, c4, c5, c6, c7, c8, c9⟩ := SpB.spIn (x := x) hX6
  obtain ⟨d0, d1, d2, d3, d4, d5, d6, d7, d8, d9⟩ := SpB.spIn (x := x) hY6
  clear hB4 hb6 hP2 hX4 hX6 hY6
  go_wp2
  go_ret
  exact ⟨ret_bool (by simp), hB6⟩

theorem twice_any (s : ByteArray) (w : World) (hE : Env w) (hEr : ErrV w) (hT : TabIn w) (h8 : 8 ≤ w.heap.size) :
    Calls Tryz.prog 11 #[.string s] w fun e w' => e = .returned (.bool true) ∧ Below w.heap.size w w' := by
  by_cases hs : 300 < s.size
  · exact twice_long s w hE hT h8 hs
  · have hP := fun W h1 h2 h3 => specParse_any s W h1 h2 h3
    by_cases he : (specF s.data.toList).2.2 = 0
    · obtain ⟨g1, g2, g3⟩ := specF_good he
      rw [he, g3] at hP
      exact twice_good s (specF s.data.toList).1 w hE hEr hT h8 (by omega) g1 g2 hP
    · obtain ⟨g1, g2⟩ := specF_bad he
      exact twice_bad s (specF s.data.toList).1 _ _ w hE hEr hT h8 (by omega) he g1 g2 hP

end Go.Proofs.YtkdejfedigiohaaGreatDoor

/- What the rows list of errors' own variable: ErrV at the row's worlds; a string argument opened. -/
namespace Go.Proofs.YtkdejfedigiohaaGreatDoor
open Go.ChangeShapes Go.WideShapes Go.ChangeAt Go.RowKit
set_option linter.unusedVariables false
set_option maxRecDepth 100000

theorem err_row : ((List.range Tryz.prog.types.size).all fun t => !(Tryz.prog.rowNamed t [101, 114, 114, 111, 114]) || t == 114) = true := by kernel_rfl
theorem errV_of_laid {W : World} {l : List (String × DataW Unit)} (h : laidMetH Tryz.prog l W) (hm : ("errors.errorType", Rows.laid_errors_errorType) ∈ l) : ErrV W := by
  have hin : ("errors.errorType", Rows.laid_errors_errorType) ∈ l.filter fun x => x.2.handleName?.isSome := List.mem_filter.2 ⟨hm, by rfl⟩
  have h1 : handlesMet Tryz.prog (l.filter fun x => x.2.handleName?.isSome) W := by
    unfold laidMetH at h
    split at h
    · rename_i e; rw [e] at hin; cases hin
    · rename_i a0 r0 e; rw [e]; exact h.2
  have h2 : ∃ name u ty, (Rows.laid_errors_errorType : DataW Unit).handleName? = some name ∧ (Tryz.prog.cutTypes.find? (·.1 == "internal/reflectlite.rtype")).map (·.2) = some u ∧ ty < Tryz.prog.types.size ∧ Tryz.prog.rowNamed ty name = true ∧ W.var? Tryz.prog "errors.errorType" = some #[.iface u (.agg #[typeHandle Tryz.prog ty])] := h1 _ hin
  obtain ⟨name, u, ty, a1, a2, a3, a4, e3⟩ := h2
  have hn : (Rows.laid_errors_errorType : DataW Unit).handleName? = some [101, 114, 114, 111, 114] := by rfl
  obtain rfl := Option.some.inj (hn.symm.trans a1)
  have hu : (Tryz.prog.cutTypes.find? (·.1 == "internal/reflectlite.rtype")).map (·.2) = some 183 := by kernel_rfl
  obtain rfl := Option.some.inj (hu.symm.trans a2)
  have ht := List.all_eq_true.1 err_row ty (List.mem_range.2 a3)
  rw [a4] at ht
  obtain rfl : ty = 114 := by simpa using ht
  have hh : typeHandle Tryz.prog 114 = hT 114 := by kernel_rfl
  rw [hh] at e3
  have hg : Tryz.prog.globalNamed "errors.errorType" = some 0 := by kernel_rfl
  unfold World.var? at e3
  rw [hg] at e3
  simp only [Option.bind_some] at e3
  unfold ErrV World.cell?
  split at e3
  · rename_i c0 t0 z0 hw
    obtain rfl := Option.some.inj e3
    rw [hw]
    rfl
  · cases e3

end Go.Proofs.YtkdejfedigiohaaGreatDoor
