/- Texts that are cut at a byte, and joined by one: plain Lean. The runs of a field's values, and its text: plain Lean. Items and fields in order: a star, a number. lex.Name: the number of a name. lex.Value at a name. The text that the show laws begin with: what it is parsed to. spec.Stars and spec.With. math/bits.TrailingZeros64 in this program. field.First. show.runs: the runs of a field, one by one: the iterator's contract. -/
import Derived.Lib.Split
import Derived.Lib.CountLaws
import Derived.Lib.CutLaws
import Derived.Lib.FieldsP
import Derived.Lib.TrailingZeros
import Derived.Test.YtkdejfedigiohaaGreatDoorQB
import Derived.Test.YtkdejfedigiohaaGreatDoorQA
import Derived.LoopN
import Derived.Lib.ConvBytes
import Derived.Lib.AtoiErrMem
import Derived.Laws.BytesArg
import Derived.Shelf.Spec.TrailingZeros
/- Texts that are cut at a byte, and joined by one: plain Lean. -/
namespace Go.Proofs.YtkdejfedigiohaaGreatDoor
open Go.Lib

theorem bytes_ext {a b : ByteArray} (h : a.data.toList = b.data.toList) : a = b := by
  cases a; cases b; simp only [Array.toList_inj] at h; simp [h]
theorem bytes_mk (l : List UInt8) : (⟨l.toArray⟩ : ByteArray).data.toList = l := rfl

/-- A text cut at each of a byte. -/
def splitL (b : UInt8) : List UInt8 → List (List UInt8)
  | [] => [[]]
  | c :: l => if c = b then [] :: splitL b l else match splitL b l with
    | [] => [[c]]
    | h :: t => (c :: h) :: t
theorem splitL_ne (b : UInt8) (l : List UInt8) : splitL b l ≠ [] := by
  cases l with
  | nil => simp [splitL]
  | cons c l => unfold splitL; split; · simp
                · split <;> simp
theorem splitL_hd (b : UInt8) (l : List UInt8) : splitL b (b :: l) = [] :: splitL b l := by simp [splitL]
theorem splitL_tl (b c : UInt8) (l : List UInt8) (hc : c ≠ b) (h : List UInt8) (t : List (List UInt8)) (hs : splitL b l = h :: t) : splitL b (c :: l) = (c :: h) :: t := by simp [splitL, hc, hs]
/-- A stretch without the byte goes whole into the first piece. -/
theorem splitL_app (b : UInt8) : ∀ (a l : List UInt8), b ∉ a → ∀ h t, splitL b l = h :: t → splitL b (a ++ l) = (a ++ h) :: t
  | [], l, _, h, t, hs => hs
  | c :: a, l, hn, h, t, hs => by
    simp only [List.mem_cons, not_or] at hn
    exact splitL_tl b c (a ++ l) (Ne.symm hn.1) (a ++ h) t (splitL_app b a l hn.2 h t hs)
theorem splitL_none (b : UInt8) (a : List UInt8) (h : b ∉ a) : splitL b a = [a] := by
  have := splitL_app b a [] h [] [] rfl
  simpa using this
theorem splitL_cut (b : UInt8) (a l : List UInt8) (h : b ∉ a) : splitL b (a ++ b :: l) = a :: splitL b l := by
  have := splitL_app b a (b :: l) h [] (splitL b l) (splitL_hd b l)
  simpa using this
theorem splitL_pieces (b : UInt8) : ∀ (l : List UInt8), ∀ x ∈ splitL b l, b ∉ x
  | [], x, h => by simp [splitL] at h; subst h; simp
  | c :: l, x, h => by
    have ih := splitL_pieces b l
    unfold splitL at h
    by_cases hc : c = b
    · rw [if_pos hc] at h
      rcases List.mem_cons.1 h with rfl | h
      · simp
      · exact ih x h
    · rw [if_neg hc] at h
      cases hs : splitL b l with
      | nil => exact absurd hs (splitL_ne b l)
      | cons h0 t =>
        rw [hs] at h ih
        rcases List.mem_cons.1 h with rfl | h
        · have := ih h0 (by simp)
          simp [this, Ne.symm hc]
        · exact ih x (by simp [h])

theorem splitL_len (b : UInt8) : ∀ (l : List UInt8), (splitL b l).length ≤ l.length + 1
  | [] => by simp [splitL]
  | c :: l => by
    have ih := splitL_len b l
    unfold splitL
    split
    · simp; omega
    · split
      · simp
      · rename_i h t hs; rw [hs] at ih; simp at ih ⊢; omega

/-- Texts joined by a byte. -/
def joinL (b : UInt8) : List (List UInt8) → List UInt8
  | [] => []
  | [x] => x
  | x :: y :: t => x ++ b :: joinL b (y :: t)
theorem splitL_join (b : UInt8) : ∀ (xs : List (List UInt8)), xs ≠ [] → (∀ x ∈ xs, b ∉ x) → splitL b (joinL b xs) = xs
  | [], h, _ => absurd rfl h
  | [x], _, h => splitL_none b x (h x (by simp))
  | x :: y :: t, _, h => by
    show splitL b (x ++ b :: joinL b (y :: t)) = _
    rw [splitL_cut b x _ (h x (by simp)), splitL_join b (y :: t) (by simp) (fun z hz => h z (by simp [hz]))]
theorem join_splitL (b : UInt8) : ∀ (l : List UInt8), joinL b (splitL b l) = l
  | [] => rfl
  | c :: l => by
    have ih := join_splitL b l
    unfold splitL
    by_cases hc : c = b
    · rw [if_pos hc]
      cases hs : splitL b l with
      | nil => exact absurd hs (splitL_ne b l)
      | cons h t => rw [hs] at ih; subst hc; show [] ++ c :: joinL c (h :: t) = _; rw [ih]; rfl
    · rw [if_neg hc]
      cases hs : splitL b l with
      | nil => exact absurd hs (splitL_ne b l)
      | cons h t =>
        rw [hs] at ih
        cases t with
        | nil => show c :: h = c :: l; rw [show h = l from ih]
        | cons y t => show (c :: h) ++ b :: joinL b (y :: t) = c :: l; rw [List.cons_append, show h ++ b :: joinL b (y :: t) = l from ih]

/-- Where a byte stands first. -/
theorem index_one (b : UInt8) : ∀ (a l : List UInt8), b ∉ a → index (a ++ b :: l) [b] = a.length
  | [], l, _ => by simp [index]
  | c :: a, l, h => by
    simp only [List.mem_cons, not_or] at h
    have ih := index_one b a l h.2
    show index (c :: (a ++ b :: l)) [b] = _
    unfold index
    rw [if_neg (by simp [h.1]), ih, if_neg (by simp)]
    simp
theorem index_no (b : UInt8) : ∀ (a : List UInt8), b ∉ a → index a [b] = -1
  | [], _ => by simp [index]
  | c :: a, h => by
    simp only [List.mem_cons, not_or] at h
    unfold index
    rw [if_neg (by simp [h.1]), index_no b a h.2]
    rfl
/-- A text holds the byte, and then it has a first one; or not. -/
theorem cut_at (b : UInt8) : ∀ (s : List UInt8), b ∉ s ∨ ∃ a l, s = a ++ b :: l ∧ b ∉ a
  | [] => .inl (by simp)
  | c :: s => by
    by_cases hc : c = b
    · exact .inr ⟨[], s, by simp [hc], by simp⟩
    · rcases cut_at b s with h | ⟨a, l, rfl, h⟩
      · exact .inl (by simp [h, Ne.symm hc])
      · exact .inr ⟨c :: a, l, rfl, by simp [h, Ne.symm hc]⟩
theorem split_count (b : UInt8) : ∀ (n : Nat) (s : List UInt8), s.length ≤ n → splitK [b] 0 (count s [b]) s = splitL b s ∧ count s [b] + 1 = (splitL b s).length
  | n, s, hn => by
    rcases cut_at b s with h | ⟨a, l, rfl, h⟩
    · rw [count_miss (index_no b s h), splitL_none b s h]; exact ⟨rfl, rfl⟩
    · have hi := index_one b a l h
      cases n with
      | zero => simp at hn
      | succ n =>
        have hd : (a ++ b :: l).drop (a.length + [b].length) = l := by simp [← List.drop_drop]
        have ih := split_count b n l (by simp at hn; omega)
        rw [count_hit (by simp) hi, hd, splitL_cut b a l h, Nat.add_comm 1]
        refine ⟨?_, ?_⟩
        · unfold splitK
          rw [hi, if_neg (by simp), show ((a.length : Nat) : Int).toNat = a.length from by simp, hd, ih.1]
          simp
        · rw [ih.2]; simp
theorem splitB_list (b : UInt8) (s : ByteArray) : (splitB ⟨#[b]⟩ 0 (countB s ⟨#[b]⟩) s).map (·.data.toList) = splitL b s.data.toList := by
  rw [splitB_data]; exact (split_count b _ _ (Nat.le_refl _)).1
theorem splitB_of (b : UInt8) (s : ByteArray) (xs : List ByteArray) (h : splitL b s.data.toList = xs.map (·.data.toList)) : splitB ⟨#[b]⟩ 0 (countB s ⟨#[b]⟩) s = xs := by
  have e := (splitB_list b s).trans h
  generalize splitB ⟨#[b]⟩ 0 (countB s ⟨#[b]⟩) s = ys at e
  clear h
  induction ys generalizing xs with
  | nil => cases xs with
    | nil => rfl
    | cons x t => simp at e
  | cons y t ih => cases xs with
    | nil => simp at e
    | cons x t' => simp only [List.map_cons, List.cons.injEq] at e; rw [ih t' e.2, bytes_ext e.1]
theorem countB_of (b : UInt8) (s : ByteArray) : countB s ⟨#[b]⟩ + 1 = (splitL b s.data.toList).length := (split_count b _ _ (Nat.le_refl _)).2
theorem cut_none (b : UInt8) (s : List UInt8) (h : b ∉ s) : cut s [b] = (s, [], false) := by
  unfold cut; rw [index_no b s h]; rfl
theorem cut_some (b : UInt8) (a l : List UInt8) (h : b ∉ a) : cut (a ++ b :: l) [b] = (a, l, true) := by
  unfold cut
  rw [index_one b a l h, if_pos (by omega)]
  simp [← List.drop_drop]
theorem contains_one (b : UInt8) (s : List UInt8) : contains s [b] = decide (b ∈ s) := by
  unfold contains
  rcases cut_at b s with h | ⟨a, l, rfl, h⟩
  · rw [index_no b s h]; simp [h]
  · rw [index_one b a l h]; simp

end Go.Proofs.YtkdejfedigiohaaGreatDoor

/- The runs of a field's values, and its text: plain Lean. -/
namespace Go.Proofs.YtkdejfedigiohaaGreatDoor
set_option linter.unusedVariables false
set_option linter.unusedSimpArgs false

def firstF (B : Nat) : Nat → Nat → Option Nat
  | 0, _ => none
  | k + 1, v => if B.testBit v then some v else firstF B k (v + 1)
/-- The least value from v on. -/
def firstN (B v : Nat) : Option Nat := firstF B (64 - v) v
def endF (B : Nat) : Nat → Nat → Nat
  | 0, v => v
  | k + 1, v => if B.testBit (v + 1) then endF B k (v + 1) else v
/-- The last one of the run that holds v. -/
def endN (B v : Nat) : Nat := endF B (64 - v) v
def runsF (B : Nat) : Nat → Nat → List (Nat × Nat)
  | 0, _ => []
  | k + 1, v => match firstN B v with
    | none => []
    | some p => (p, endN B p) :: runsF B k (endN B p + 1)
/-- The runs: the first and the last one of each. -/
def runsN (B : Nat) : List (Nat × Nat) := runsF B 64 0

theorem firstF_some {B : Nat} : ∀ {k v p : Nat}, firstF B k v = some p → v ≤ p ∧ p < v + k ∧ B.testBit p = true ∧ ∀ u, v ≤ u → u < p → B.testBit u = false
  | 0, v, p, h => by simp [firstF] at h
  | k + 1, v, p, h => by
    unfold firstF at h
    by_cases hb : B.testBit v = true
    · rw [if_pos hb] at h
      obtain rfl := Option.some.inj h
      exact ⟨Nat.le_refl _, by omega, hb, fun u h1 h2 => by omega⟩
    · rw [if_neg hb] at h
      obtain ⟨h1, h2, h3, h4⟩ := firstF_some h
      refine ⟨by omega, by omega, h3, fun u h5 h6 => ?_⟩
      by_cases hu : u = v
      · subst hu; simpa using hb
      · exact h4 u (by omega) h6
theorem firstF_none {B : Nat} : ∀ {k v : Nat}, firstF B k v = none → ∀ u, v ≤ u → u < v + k → B.testBit u = false
  | 0, v, _, u, h1, h2 => by omega
  | k + 1, v, h, u, h1, h2 => by
    unfold firstF at h
    by_cases hb : B.testBit v = true
    · rw [if_pos hb] at h; cases h
    · rw [if_neg hb] at h
      by_cases hu : u = v
      · subst hu; simpa using hb
      · exact firstF_none h u (by omega) (by omega)
theorem firstN_some {B v p : Nat} (h : firstN B v = some p) : v ≤ p ∧ p < 64 ∧ B.testBit p = true ∧ ∀ u, v ≤ u → u < p → B.testBit u = false := by
  obtain ⟨h1, h2, h3, h4⟩ := firstF_some h
  exact ⟨h1, by omega, h3, h4⟩
theorem firstN_none {B v : Nat} (h : firstN B v = none) : ∀ u, v ≤ u → u < 64 → B.testBit u = false :=
  fun u h1 h2 => firstF_none h u h1 (by omega)
theorem firstN_is {B v p : Nat} (h1 : v ≤ p) (h2 : p < 64) (h3 : B.testBit p = true) (h4 : ∀ u, v ≤ u → u < p → B.testBit u = false) : firstN B v = some p := by
  cases h : firstN B v with
  | none => rw [firstN_none h p h1 h2] at h3; cases h3
  | some q =>
    obtain ⟨a, b, c, d⟩ := firstN_some h
    rcases Nat.lt_trichotomy p q with hlt | rfl | hlt
    · rw [d p h1 hlt] at h3; cases h3
    · rfl
    · rw [h4 q a hlt] at c; cases c
theorem firstN_isnone {B v : Nat} (h : ∀ u, v ≤ u → u < 64 → B.testBit u = false) : firstN B v = none := by
  cases hp : firstN B v with
  | none => rfl
  | some p => obtain ⟨a, b, c, _⟩ := firstN_some hp; rw [h p a b] at c; cases c
theorem endF_spec {B : Nat} : ∀ {k v : Nat}, v ≤ endF B k v ∧ endF B k v ≤ v + k ∧ (∀ u, v < u → u ≤ endF B k v → B.testBit u = true) ∧ (endF B k v < v + k → B.testBit (endF B k v + 1) = false)
  | 0, v => ⟨Nat.le_refl _, Nat.le_refl _, fun u h1 h2 => by simp [endF] at h2; omega, fun h => by simp [endF] at h⟩
  | k + 1, v => by
    unfold endF
    by_cases hb : B.testBit (v + 1) = true
    · rw [if_pos hb]
      obtain ⟨h1, h2, h3, h4⟩ := endF_spec (B := B) (k := k) (v := v + 1)
      refine ⟨by omega, by omega, fun u h5 h6 => ?_, fun h => h4 (by omega)⟩
      by_cases hu : u = v + 1
      · subst hu; exact hb
      · exact h3 u (by omega) h6
    · rw [if_neg hb]
      exact ⟨Nat.le_refl _, by omega, fun u h1 h2 => by omega, fun _ => by simpa using hb⟩
theorem bit_small {B : Nat} (hB : B < 18446744073709551616) {u : Nat} (h : 64 ≤ u) : B.testBit u = false := by
  apply Nat.testBit_lt_two_pow
  exact Nat.lt_of_lt_of_le hB (by rw [show (18446744073709551616 : Nat) = 2 ^ 64 by rfl]; exact Nat.pow_le_pow_right (by decide) h)
theorem endN_spec {B v : Nat} (hB : B < 18446744073709551616) (hv : v < 64) : v ≤ endN B v ∧ endN B v < 64 ∧ (∀ u, v < u → u ≤ endN B v → B.testBit u = true) ∧ B.testBit (endN B v + 1) = false := by
  obtain ⟨h1, h2, h3, h4⟩ := endF_spec (B := B) (k := 64 - v) (v := v)
  have h64 : endN B v < 64 := by
    apply Nat.lt_of_not_le
    intro h
    have : endN B v = 64 := by unfold endN at h ⊢; omega
    have hb := h3 64 hv (by unfold endN at this; omega)
    rw [bit_small hB (Nat.le_refl _)] at hb
    cases hb
  exact ⟨h1, h64, h3, h4 (by unfold endN at h64; omega)⟩
theorem endN_is {B v q : Nat} (hB : B < 18446744073709551616) (h1 : v ≤ q) (h2 : q < 64) (h3 : ∀ u, v < u → u ≤ q → B.testBit u = true) (h4 : B.testBit (q + 1) = false) : endN B v = q := by
  obtain ⟨a, b, c, d⟩ := endN_spec hB (v := v) (by omega)
  rcases Nat.lt_trichotomy (endN B v) q with h | h | h
  · rw [h3 (endN B v + 1) (by omega) (by omega)] at d; cases d
  · exact h
  · rw [c (q + 1) (by omega) (by omega)] at h4; cases h4

/-- The runs are in order, within the bits, apart, and whole. -/
inductive IsRuns (B : Nat) : Nat → List (Nat × Nat) → Prop
  | nil {v : Nat} : (∀ u, v ≤ u → u < 64 → B.testBit u = false) → IsRuns B v []
  | cons {v p q : Nat} {l : List (Nat × Nat)} : v ≤ p → p ≤ q → q < 64 → (∀ u, v ≤ u → u < p → B.testBit u = false) → (∀ u, p ≤ u → u ≤ q → B.testBit u = true) → B.testBit (q + 1) = false → IsRuns B (q + 1) l → IsRuns B v ((p, q) :: l)
theorem runsF_is {B : Nat} (hB : B < 18446744073709551616) : ∀ {k v : Nat}, 64 ≤ v + k → IsRuns B v (runsF B k v)
  | 0, v, h => .nil fun u h1 h2 => by omega
  | k + 1, v, h => by
    unfold runsF
    cases hf : firstN B v with
    | none => exact .nil fun u h1 h2 => firstN_none hf u h1 h2
    | some p =>
      obtain ⟨h1, h2, h3, h4⟩ := firstN_some hf
      obtain ⟨a, b, c, d⟩ := endN_spec hB (v := p) h2
      refine .cons h1 a b h4 (fun u h5 h6 => ?_) d (runsF_is hB (by omega))
      by_cases hu : u = p
      · subst hu; exact h3
      · exact c u (by omega) h6
theorem runsN_is {B : Nat} (hB : B < 18446744073709551616) : IsRuns B 0 (runsN B) := runsF_is hB (by omega)

/-- A number below 100, as digits. -/
def dg (n : Nat) : List UInt8 := if n < 10 then [UInt8.ofNat (48 + n)] else [UInt8.ofNat (48 + n / 10), UInt8.ofNat (48 + n % 10)]
def runL (r : Nat × Nat) : List UInt8 := if r.2 = r.1 then dg r.1 else if r.2 = r.1 + 1 then dg r.1 ++ 44 :: dg r.2 else dg r.1 ++ 45 :: dg r.2
/-- One piece more. -/
def pieceL (c : UInt8) (acc s : List UInt8) : List UInt8 := if acc = [] then s else acc ++ c :: s
def runsT (acc : List UInt8) (l : List (Nat × Nat)) : List UInt8 := l.foldl (fun a r => pieceL 44 a (runL r)) acc
/-- A field's text. -/
def fieldT (B : Nat) (s : Bool) : List UInt8 := if s then [42] else runsT [] (runsN B)

theorem dg_ne (n : Nat) : dg n ≠ [] := by unfold dg; split <;> simp
theorem dg_len (n : Nat) : (dg n).length = if n < 10 then 1 else 2 := by unfold dg; split <;> rfl
theorem runL_ne (r : Nat × Nat) : runL r ≠ [] := by unfold runL; split; · exact dg_ne _
                                                    · split <;> simp
theorem pieceL_ne (c : UInt8) (a s : List UInt8) (h : s ≠ []) : pieceL c a s ≠ [] := by unfold pieceL; split; · exact h
                                                                                        · simp
/-- Two pieces are as the piece of both. -/
theorem pieceL_two (acc a b : List UInt8) (h : a ≠ []) : pieceL 44 (pieceL 44 acc a) b = pieceL 44 acc (a ++ 44 :: b) := by
  unfold pieceL
  by_cases ha : acc = []
  · rw [if_pos ha, if_pos ha, if_neg h]
  · rw [if_neg ha, if_neg ha, if_neg (by simp)]; simp

/-- What a run's text is cut into: the items, and what they say. -/
def itemsR (r : Nat × Nat) : List (List UInt8 × Nat × Nat) := if r.2 = r.1 then [(dg r.1, r.1, r.1)] else if r.2 = r.1 + 1 then [(dg r.1, r.1, r.1), (dg r.2, r.2, r.2)] else [(dg r.1 ++ 45 :: dg r.2, r.1, r.2)]
def itemsL (l : List (Nat × Nat)) : List (List UInt8 × Nat × Nat) := l.flatMap itemsR
theorem joinL_cons (b : UInt8) (x : List UInt8) (xs : List (List UInt8)) (h : xs ≠ []) : joinL b (x :: xs) = x ++ b :: joinL b xs := by
  cases xs with
  | nil => exact absurd rfl h
  | cons y t => rfl
theorem joinL_app (b : UInt8) : ∀ (xs ys : List (List UInt8)), xs ≠ [] → ys ≠ [] → joinL b (xs ++ ys) = joinL b xs ++ b :: joinL b ys
  | [], ys, h, _ => absurd rfl h
  | [x], ys, _, h => by rw [List.singleton_append, joinL_cons b x ys h]; rfl
  | x :: y :: t, ys, _, h => by
    rw [List.cons_append, joinL_cons b x _ (by simp), joinL_app b (y :: t) ys (by simp) h, joinL_cons b x (y :: t) (by simp)]
    simp
theorem joinL_ne (b : UInt8) : ∀ (xs : List (List UInt8)), xs ≠ [] → (∀ x ∈ xs, x ≠ []) → joinL b xs ≠ []
  | [], h, _ => absurd rfl h
  | [x], _, h => h x (by simp)
  | x :: y :: t, _, _ => by rw [joinL_cons b x _ (by simp)]; simp
theorem itemsR_ne (r : Nat × Nat) : itemsR r ≠ [] := by unfold itemsR; split; · simp
                                                        · split <;> simp
theorem itemsR_join (r : Nat × Nat) : joinL 44 ((itemsR r).map (·.1)) = runL r := by
  unfold itemsR runL
  split
  · rfl
  · split <;> rfl
theorem itemsR_text_ne (r : Nat × Nat) : ∀ x ∈ (itemsR r).map (·.1), x ≠ [] := by
  unfold itemsR
  intro x hx
  split at hx
  · simp at hx; subst hx; exact dg_ne _
  · split at hx
    · simp at hx; rcases hx with rfl | rfl <;> exact dg_ne _
    · simp at hx; subst hx; simp
theorem runsT_join : ∀ (l : List (Nat × Nat)) (xs : List (List UInt8)), (∀ x ∈ xs, x ≠ []) → runsT (joinL 44 xs) l = joinL 44 (xs ++ (itemsL l).map (·.1))
  | [], xs, _ => by simp [runsT, itemsL]
  | r :: l, xs, h => by
    have hp : pieceL 44 (joinL 44 xs) (runL r) = joinL 44 (xs ++ (itemsR r).map (·.1)) := by
      unfold pieceL
      by_cases hx : xs = []
      · subst hx; rw [if_pos (show joinL 44 [] = [] from rfl), List.nil_append, itemsR_join]
      · rw [if_neg (joinL_ne 44 xs hx h), joinL_app 44 xs _ hx (by simp [itemsR_ne]), itemsR_join]
    have ih := runsT_join l (xs ++ (itemsR r).map (·.1)) (fun x hx => by rcases List.mem_append.1 hx with hx | hx; · exact h x hx
                                                                         · exact itemsR_text_ne r x hx)
    show runsT (pieceL 44 (joinL 44 xs) (runL r)) l = _
    rw [hp, ih]
    simp [itemsL]
theorem runsT_items (l : List (Nat × Nat)) : runsT [] l = joinL 44 ((itemsL l).map (·.1)) := by
  have := runsT_join l [] (by simp)
  simpa [joinL] using this

end Go.Proofs.YtkdejfedigiohaaGreatDoor

/- Items and fields in order: a star, a number. -/
namespace Go.Proofs.YtkdejfedigiohaaGreatDoor
open Go.RowKit Go.Proofs.YtkdejfedigiohaaGreatDoorW.PrintWords Go.Proofs.YtkdejfedigiohaaGreatDoorW.PrintLast Go.Proofs.YtkdejfedigiohaaGreatDoorW.PrintMore
set_option linter.unusedVariables false
set_option linter.unusedSimpArgs false


theorem item_star (kind : Int) (h0 : 0 ≤ kind) (h1 : kind ≤ 4) : ItemOk kind ⟨#[42]⟩ (lexLo kind) (lexHi kind) 1 where
  k0 := h0
  k1 := h1
  lo0 := by unfold lexLo; split <;> omega
  hi1 := by unfold lexHi; repeat' split <;> omega
  st0 := by omega
  st1 := by omega
  size := by decide
  ex := ⟨⟨#[42]⟩, ⟨#[]⟩, false, 1, _, by decide +kernel, by decide, by decide, by decide +kernel, by decide +kernel, rfl, by omega, (fun h => by cases h), .inl ⟨by decide +kernel, rfl, rfl⟩, .inl ⟨rfl, rfl⟩⟩
theorem item_num (t : ByteArray) (kind v : Int) (h0 : 0 ≤ kind) (h1 : kind ≤ 4) (v0 : 0 ≤ v) (v1 : v ≤ 59) (hs : t.size < 4294967281) (hp : 0 < t.size) (hd : digI (t[0].toNat : Int) = true)
    (hcut : Lib.cut t.data.toList [47] = (t.data.toList, (⟨#[]⟩ : ByteArray).data.toList, false)) (hc : Lib.countB t ⟨#[45]⟩ = 0) (hsp : Lib.splitB ⟨#[45]⟩ 0 0 t = [t]) (hns : t.toList ≠ [42]) (hn : rangeI kind (numL t.data.toList) = (v, 0)) :
    ItemOk kind t v v 1 where
  k0 := h0
  k1 := h1
  lo0 := v0
  hi1 := v1
  st0 := by omega
  st1 := by omega
  size := hs
  ex := ⟨t, ⟨#[]⟩, false, 1, #[.string t], hcut, hs, by decide, by decide +kernel, by rw [hc], by rw [hc, hsp]; rfl, by omega, (fun h => by cases h),
    .inr (.inl ⟨hns, rfl, rfl, t, rfl, fun w => by have := value_dig t kind w h0 h1 hp hd; rw [hn] at this; exact this⟩), .inl ⟨rfl, rfl⟩⟩
theorem pf_one (t : ByteArray) (kind : Int) (star : Bool) (lo hi st : Int) (hi' : ItemOk kind t lo hi st) (hstar : (t.toList == [42]) = star) (hc : Lib.countB t ⟨#[44]⟩ = 0) (hsp : Lib.splitB ⟨#[44]⟩ 0 0 t = [t]) : PF t kind star [(t, lo, hi, st)] where
  size := hi'.size
  star := hstar
  split := by rw [hc, hsp]; rfl
  n := by rw [hc]; rfl
  len := by simp
  items := by intro x hx; simp at hx; subst hx; exact hi'
theorem pf_star (kind : Int) (h0 : 0 ≤ kind) (h1 : kind ≤ 4) : PF ⟨#[42]⟩ kind true [(⟨#[42]⟩, lexLo kind, lexHi kind, 1)] := pf_one _ _ _ _ _ _ (item_star kind h0 h1) (by decide +kernel) (by decide +kernel) (by decide +kernel)

def tx0 : ByteArray := ⟨#[48]⟩
def tx12 : ByteArray := ⟨#[49, 50]⟩
def tx13 : ByteArray := ⟨#[49, 51]⟩
def tx5 : ByteArray := ⟨#[53]⟩
theorem pf0 : PF tx0 0 false [(tx0, 0, 0, 1)] := pf_one _ _ _ _ _ _ (item_num tx0 0 0 (by decide) (by decide) (by decide) (by decide) (by decide) (by decide) (by decide +kernel) (by decide +kernel) (by decide +kernel) (by decide +kernel) (by decide +kernel) (by decide +kernel)) (by decide +kernel) (by decide +kernel) (by decide +kernel)
theorem pf12 : PF tx12 1 false [(tx12, 12, 12, 1)] := pf_one _ _ _ _ _ _ (item_num tx12 1 12 (by decide) (by decide) (by decide) (by decide) (by decide) (by decide) (by decide +kernel) (by decide +kernel) (by decide +kernel) (by decide +kernel) (by decide +kernel) (by decide +kernel)) (by decide +kernel) (by decide +kernel) (by decide +kernel)
theorem pf13 : PF tx13 2 false [(tx13, 13, 13, 1)] := pf_one _ _ _ _ _ _ (item_num tx13 2 13 (by decide) (by decide) (by decide) (by decide) (by decide) (by decide) (by decide +kernel) (by decide +kernel) (by decide +kernel) (by decide +kernel) (by decide +kernel) (by decide +kernel)) (by decide +kernel) (by decide +kernel) (by decide +kernel)
theorem pf5 : PF tx5 4 false [(tx5, 5, 5, 1)] := pf_one _ _ _ _ _ _ (item_num tx5 4 5 (by decide) (by decide) (by decide) (by decide) (by decide) (by decide) (by decide +kernel) (by decide +kernel) (by decide +kernel) (by decide +kernel) (by decide +kernel) (by decide +kernel)) (by decide +kernel) (by decide +kernel) (by decide +kernel)

theorem bs2 : bitsI 2 0 [(⟨#[42]⟩, lexLo 2, lexHi 2, 1)] = 4294967294 := by decide +kernel
theorem bs3 : bitsI 3 0 [(⟨#[42]⟩, lexLo 3, lexHi 3, 1)] = 8190 := by decide +kernel
theorem bs4 : bitsI 4 0 [(⟨#[42]⟩, lexLo 4, lexHi 4, 1)] = 127 := by decide +kernel
theorem bs0 : bitsI 0 0 [(⟨#[42]⟩, lexLo 0, lexHi 0, 1)] = 1152921504606846975 := by decide +kernel
theorem bs1 : bitsI 1 0 [(⟨#[42]⟩, lexLo 1, lexHi 1, 1)] = 16777215 := by decide +kernel

end Go.Proofs.YtkdejfedigiohaaGreatDoor

/- lex.Name: the number of a name. -/
namespace Go.Proofs.YtkdejfedigiohaaGreatDoor
open Go.RowKit Go.Proofs.YtkdejfedigiohaaGreatDoorW.PrintWords Go.Proofs.YtkdejfedigiohaaGreatDoorW.PrintLast Go.Proofs.YtkdejfedigiohaaGreatDoorW.PrintMore
set_option linter.unusedVariables false
set_option linter.unusedSimpArgs false


def lo8 (b : Int) : Int := if 65 ≤ b ∧ b ≤ 90 then b + 32 else b
/-- Three bytes that may be written. -/
def LowB (a b c : Int) (W : World) (lb : Nat) : Prop :=
  (W.cell? ⟨lb, 0, none⟩ = some (.int .u8 a) ∧ W.cell? ⟨lb, 1, none⟩ = some (.int .u8 b) ∧ W.cell? ⟨lb, 2, none⟩ = some (.int .u8 c))
  ∧ W.frozen? ⟨lb, 0, none⟩ = false ∧ W.frozen? ⟨lb, 1, none⟩ = false ∧ W.frozen? ⟨lb, 2, none⟩ = false
/-- The first i of three in small letters. -/
def lows (x y z : Int) (i : Nat) (a b c : Int) : Prop := (i = 0 ∧ a = x ∧ b = y ∧ c = z) ∨ (i = 1 ∧ a = lo8 x ∧ b = y ∧ c = z) ∨ (i = 2 ∧ a = lo8 x ∧ b = lo8 y ∧ c = z) ∨ (i = 3 ∧ a = lo8 x ∧ b = lo8 y ∧ c = lo8 z)
theorem lows0 {x y z a b c : Int} (h : lows x y z 0 a b c) : lows x y z 1 (lo8 a) b c := by
  rcases h with ⟨_, rfl, rfl, rfl⟩ | ⟨h, _⟩ | ⟨h, _⟩ | ⟨h, _⟩
  · exact .inr (.inl ⟨rfl, rfl, rfl, rfl⟩)
  all_goals omega
theorem lows1 {x y z a b c : Int} (h : lows x y z 1 a b c) : lows x y z 2 a (lo8 b) c := by
  rcases h with ⟨h, _⟩ | ⟨_, rfl, rfl, rfl⟩ | ⟨h, _⟩ | ⟨h, _⟩
  · omega
  · exact .inr (.inr (.inl ⟨rfl, rfl, rfl, rfl⟩))
  all_goals omega
theorem lows2 {x y z a b c : Int} (h : lows x y z 2 a b c) : lows x y z 3 a b (lo8 c) := by
  rcases h with ⟨h, _⟩ | ⟨h, _⟩ | ⟨_, rfl, rfl, rfl⟩ | ⟨h, _⟩
  · omega
  · omega
  · exact .inr (.inr (.inr ⟨rfl, rfl, rfl, rfl⟩))
  · omega
theorem lows3 {x y z a b c : Int} (h : lows x y z 3 a b c) : a = lo8 x ∧ b = lo8 y ∧ c = lo8 z := by
  rcases h with ⟨h, _⟩ | ⟨h, _⟩ | ⟨h, _⟩ | ⟨_, h⟩
  · omega
  · omega
  · omega
  · exact h
theorem lo8_no1 {a : Int} (h : decide (65 ≤ a) = false) : lo8 a = a := by unfold lo8; rw [if_neg]; simp at h; omega
theorem lo8_no2 {a : Int} (h : decide (a ≤ 90) = false) : lo8 a = a := by unfold lo8; rw [if_neg]; simp at h; omega
theorem lo8_up {a : Int} (h : decide (65 ≤ a) = true) (k : decide (a ≤ 90) = true) : lo8 a = (a + 97 - 65) % 256 := by
  simp at h k; unfold lo8; rw [if_pos ⟨h, k⟩]; omega
theorem LowB.set0 {a b c : Int} {W : World} {lb : Nat} (h : LowB a b c W lb) (v : Int) : LowB v b c (W.setCell ⟨lb, 0, none⟩ (.int .u8 v)) lb := by
  obtain ⟨⟨h0, h1, h2⟩, z0, z1, z2⟩ := h
  refine ⟨⟨World.cell?_setCell_same _ _ _ h0, (World.cell?_setCell_other _ _ _ _ (by simp)).trans h1, (World.cell?_setCell_other _ _ _ _ (by simp)).trans h2⟩, ?_, ?_, ?_⟩ <;> (rw [World.frozen?_setCell]; assumption)
theorem LowB.set1 {a b c : Int} {W : World} {lb : Nat} (h : LowB a b c W lb) (v : Int) : LowB a v c (W.setCell ⟨lb, 1, none⟩ (.int .u8 v)) lb := by
  obtain ⟨⟨h0, h1, h2⟩, z0, z1, z2⟩ := h
  refine ⟨⟨(World.cell?_setCell_other _ _ _ _ (by simp)).trans h0, World.cell?_setCell_same _ _ _ h1, (World.cell?_setCell_other _ _ _ _ (by simp)).trans h2⟩, ?_, ?_, ?_⟩ <;> (rw [World.frozen?_setCell]; assumption)
theorem LowB.set2 {a b c : Int} {W : World} {lb : Nat} (h : LowB a b c W lb) (v : Int) : LowB a b v (W.setCell ⟨lb, 2, none⟩ (.int .u8 v)) lb := by
  obtain ⟨⟨h0, h1, h2⟩, z0, z1, z2⟩ := h
  refine ⟨⟨(World.cell?_setCell_other _ _ _ _ (by simp)).trans h0, (World.cell?_setCell_other _ _ _ _ (by simp)).trans h1, World.cell?_setCell_same _ _ _ h2⟩, ?_, ?_, ?_⟩ <;> (rw [World.frozen?_setCell]; assumption)

set_option maxRecDepth 100000 in
set_option maxHeartbeats 2000000 in
theorem conv_q (s : ByteArray) (w : World) : (Go.convert 9 85 (.string s)).run Tryz.prog w = .ok (.slice (some ⟨w.heap.size, 0, none⟩) s.size (grownCap w s.size 0 5)) (Lib.bytesWorld w 5 s) :=
  Lib.run_convert_string_bytes w 9 85 5 s Tryz.underlying9 Tryz.underlying85 Tryz.underlying5
theorem low_new (w : World) (x y z : UInt8) : LowB x.toNat y.toNat z.toNat (Lib.bytesWorld w 5 ⟨#[x, y, z]⟩) w.heap.size := by
  have hn := Lib.bytesWorld_at_new w 5 ⟨#[x, y, z]⟩
  have hs : 3 ≤ (Lib.bytesCells w 5 ⟨#[x, y, z]⟩).size := by simp [Lib.bytesCells]
  have hf : ∀ j, j < 3 → (Lib.bytesWorld w 5 ⟨#[x, y, z]⟩).frozen? ⟨w.heap.size, j, none⟩ = false := fun j hj => by
    simp only [World.frozen?, hn]
    simp
    omega
  exact ⟨⟨Lib.bytesWorld_cell w _ ⟨#[x, y, z]⟩ 0 (show 0 < 3 by decide), Lib.bytesWorld_cell w _ ⟨#[x, y, z]⟩ 1 (show 1 < 3 by decide), Lib.bytesWorld_cell w _ ⟨#[x, y, z]⟩ 2 (show 2 < 3 by decide)⟩, hf 0 (by decide), hf 1 (by decide), hf 2 (by decide)⟩

/-- The place of a name of three bytes among names, from a place on. -/
def findN (nm lw : ByteArray) : Nat → Nat → Option Nat
  | 0, _ => none
  | k + 1, pos => if pos < nm.size then (if pos % 3 = 0 ∧ nm.extract pos (pos + 3) = lw then some (pos / 3) else findN nm lw k (pos + 1)) else none

theorem findN_step (nm lw : ByteArray) (k pos : Nat) : findN nm lw (k + 1) pos = if pos < nm.size then (if pos % 3 = 0 ∧ nm.extract pos (pos + 3) = lw then some (pos / 3) else findN nm lw k (pos + 1)) else none := rfl
theorem iter_drewN (v : World) (s : ByteArray) (p : Nat) : ∀ q, (v.iter s p).drewN q = (v.drewN q).iter s p
  | 0 => rfl
  | q + 1 => by rw [show (v.iter s p).drewN (q + 1) = ((v.iter s p).drewN q).drew from rfl, iter_drewN v s p q]; rfl
theorem LowB.heap {a b c : Int} {W W' : World} {lb : Nat} (h : LowB a b c W lb) (e : W'.heap[lb]? = W.heap[lb]?) : LowB a b c W' lb := by
  obtain ⟨⟨h0, h1, h2⟩, z0, z1, z2⟩ := h
  exact ⟨⟨(World.cell?_of_block (a := ⟨lb, 0, none⟩) e).trans h0, (World.cell?_of_block (a := ⟨lb, 1, none⟩) e).trans h1, (World.cell?_of_block (a := ⟨lb, 2, none⟩) e).trans h2⟩, (World.frozen?_of_block (a := ⟨lb, 0, none⟩) e).trans z0, (World.frozen?_of_block (a := ⟨lb, 1, none⟩) e).trans z1, (World.frozen?_of_block (a := ⟨lb, 2, none⟩) e).trans z2⟩
theorem LowB.conv {a b c : Int} {W : World} {lb : Nat} (h : LowB a b c W lb) (cap : Nat) : (Go.convert 85 9 (.slice (some ⟨lb, 0, none⟩) 3 cap)).run Tryz.prog W = .ok (.string (strOfNums [a, b, c])) W :=
  run_convert_bytes_arg W 85 5 Tryz.underlying85 Tryz.underlying5 lb 0 3 cap [a, b, c] rfl (fun i hi => by
    obtain ⟨⟨h0, h1, h2⟩, _⟩ := h
    obtain rfl | rfl | rfl : i = 0 ∨ i = 1 ∨ i = 2 := by omega
    · exact h0
    · exact h1
    · exact h2) 9 Tryz.underlying9

theorem iterPos_drewN (w : World) (q b : Nat) : (w.drewN q).iterPos b = w.iterPos b := rfl
theorem iterPos_drew (w : World) (b : Nat) : w.drew.iterPos b = w.iterPos b := rfl
def monthsT : ByteArray := ⟨#[106, 97, 110, 102, 101, 98, 109, 97, 114, 97, 112, 114, 109, 97, 121, 106, 117, 110, 106, 117, 108, 97, 117, 103, 115, 101, 112, 111, 99, 116, 110, 111, 118, 100, 101, 99]⟩
def nameR : Option Nat → Int → Int × Int
  | some i, f => ((i : Int) + f, 0)
  | none, _ => (0, 2)

def daysT : ByteArray := ⟨#[115, 117, 110, 109, 111, 110, 116, 117, 101, 119, 101, 100, 116, 104, 117, 102, 114, 105, 115, 97, 116]⟩
set_option maxRecDepth 100000 in
set_option maxHeartbeats 2000000 in
theorem name_month (x y z : UInt8) (w : World) (R : Int × Int) (hR : nameR (findN monthsT (strOfNums [lo8 x.toNat, lo8 y.toNat, lo8 z.toNat]) 37 0) 1 = R) :
    Calls Tryz.prog 135 #[.string ⟨#[x, y, z]⟩, .int .i64 3] w fun e w' => e = .returned (.tuple #[.int .i64 R.1, .int .i64 R.2]) ∧ Below w.heap.size w w' := by
  have hRH := Lib.hid hR
  clear hR
  have hcv := fun W => conv_q ⟨#[x, y, z]⟩ W
  have hL := low_new w x y z
  have hbW := Lib.bytesWorld_below w 5 ⟨#[x, y, z]⟩
  have hx : 0 ≤ (x.toNat : Int) ∧ (x.toNat : Int) < 256 := ⟨by omega, by have := x.toNat_lt; omega⟩
  have hy : 0 ≤ (y.toNat : Int) ∧ (y.toNat : Int) < 256 := ⟨by omega, by have := y.toNat_lt; omega⟩
  have hz : 0 ≤ (z.toNat : Int) ∧ (z.toNat : Int) < 256 := ⟨by omega, by have := z.toNat_lt; omega⟩
  generalize (x.toNat : Int) = xi at *
  generalize (y.toNat : Int) = yi at *
  generalize (z.toNat : Int) = zi at *
  go_enter Tryz.func135, Tryz.ntmps135
  go_wp2
  generalize Lib.bytesWorld w 5 ⟨#[x, y, z]⟩ = W1 at *
  clear hcv
  go_loopg [24] 3 (fun g v24 W' => ∃ i : Nat, i + g = 3 ∧ v24 = .int .i64 i ∧ (∃ a b c, Hid (lows xi yi zi i a b c) ∧ Hid (LowB a b c W' w.heap.size)) ∧ Below w.heap.size w W')
  case atStart => exact ⟨0, rfl, rfl, ⟨xi, yi, zi, .inl ⟨rfl, rfl, rfl, rfl⟩, hL⟩, hbW⟩
  case round =>
    obtain ⟨i, hi, rfl, ⟨a, b, c, hl, hLB⟩, hB⟩ := hrel
    obtain ⟨⟨l0, l1, l2⟩, z0, z1, z2⟩ := hLB.out
    obtain rfl | rfl | rfl | rfl : i = 0 ∨ i = 1 ∨ i = 2 ∨ i = 3 := by omega
    · have hl2 := Lib.hid (lows0 hl.out)
      clear hl
      cases h1 : decide (65 ≤ a) <;> cases h2 : decide (a ≤ 90)
      · rw [lo8_no1 h1] at hl2
        go_wp2
        go_roundg (gk - 1)
        case measure => omega
        case rel => exact ⟨1, by omega, rfl, ⟨a, b, c, hl2, hLB⟩, hB⟩
      · rw [lo8_no1 h1] at hl2
        go_wp2
        go_roundg (gk - 1)
        case measure => omega
        case rel => exact ⟨1, by omega, rfl, ⟨a, b, c, hl2, hLB⟩, hB⟩
      · rw [lo8_no2 h2] at hl2
        go_wp2
        go_roundg (gk - 1)
        case measure => omega
        case rel => exact ⟨1, by omega, rfl, ⟨a, b, c, hl2, hLB⟩, hB⟩
      · rw [lo8_up h1 h2] at hl2
        have hLB2 := fun v => Lib.hid (hLB.out.set0 v)
        go_wp2
        go_roundg (gk - 1)
        case measure => omega
        case rel => exact ⟨1, by omega, rfl, ⟨_, _, _, hl2, hLB2 _⟩, hB.setCell (p := ⟨w.heap.size, 0, none⟩) (Nat.le_refl _) _⟩
    · have hl2 := Lib.hid (lows1 hl.out)
      clear hl
      cases h1 : decide (65 ≤ b) <;> cases h2 : decide (b ≤ 90)
      · rw [lo8_no1 h1] at hl2
        go_wp2
        go_roundg (gk - 1)
        case measure => omega
        case rel => exact ⟨2, by omega, rfl, ⟨a, b, c, hl2, hLB⟩, hB⟩
      · rw [lo8_no1 h1] at hl2
        go_wp2
        go_roundg (gk - 1)
        case measure => omega
        case rel => exact ⟨2, by omega, rfl, ⟨a, b, c, hl2, hLB⟩, hB⟩
      · rw [lo8_no2 h2] at hl2
        go_wp2
        go_roundg (gk - 1)
        case measure => omega
        case rel => exact ⟨2, by omega, rfl, ⟨a, b, c, hl2, hLB⟩, hB⟩
      · rw [lo8_up h1 h2] at hl2
        have hLB2 := fun v => Lib.hid (hLB.out.set1 v)
        go_wp2
        go_roundg (gk - 1)
        case measure => omega
        case rel => exact ⟨2, by omega, rfl, ⟨_, _, _, hl2, hLB2 _⟩, hB.setCell (p := ⟨w.heap.size, 1, none⟩) (Nat.le_refl _) _⟩
    · have hl2 := Lib.hid (lows2 hl.out)
      clear hl
      cases h1 : decide (65 ≤ c) <;> cases h2 : decide (c ≤ 90)
      · rw [lo8_no1 h1] at hl2
        go_wp2
        go_roundg (gk - 1)
        case measure => omega
        case rel => exact ⟨3, by omega, rfl, ⟨a, b, c, hl2, hLB⟩, hB⟩
      · rw [lo8_no1 h1] at hl2
        go_wp2
        go_roundg (gk - 1)
        case measure => omega
        case rel => exact ⟨3, by omega, rfl, ⟨a, b, c, hl2, hLB⟩, hB⟩
      · rw [lo8_no2 h2] at hl2
        go_wp2
        go_roundg (gk - 1)
        case measure => omega
        case rel => exact ⟨3, by omega, rfl, ⟨a, b, c, hl2, hLB⟩, hB⟩
      · rw [lo8_up h1 h2] at hl2
        have hLB2 := fun v => Lib.hid (hLB.out.set2 v)
        go_wp2
        go_roundg (gk - 1)
        case measure => omega
        case rel => exact ⟨3, by omega, rfl, ⟨_, _, _, hl2, hLB2 _⟩, hB.setCell (p := ⟨w.heap.size, 2, none⟩) (Nat.le_refl _) _⟩
    · obtain ⟨rfl, rfl, rfl⟩ := lows3 hl.out
      clear hl
      go_wp2
      generalize hnm : (⟨#[106, 97, 110, 102, 101, 98, 109, 97, 114, 97, 112, 114, 109, 97, 121, 106, 117, 110, 106, 117, 108, 97, 117, 103, 115, 101, 112, 111, 99, 116, 110, 111, 118, 100, 101, 99]⟩ : ByteArray) = nm
      have hsz : nm.size = 36 := by subst hnm; rfl
      have hasc : Hid (∀ i (h : i < nm.size), nm[i].toNat < 128) := by subst hnm; exact (show ∀ i (h : i < 36), ((⟨#[106, 97, 110, 102, 101, 98, 109, 97, 114, 97, 112, 114, 109, 97, 121, 106, 117, 110, 106, 117, 108, 97, 117, 103, 115, 101, 112, 111, 99, 116, 110, 111, 118, 100, 101, 99]⟩ : ByteArray)[i]'h).toNat < 128 by decide +kernel)
      have hRH : Hid (nameR (findN nm (strOfNums [lo8 xi, lo8 yi, lo8 zi]) 37 0) 1 = R) := by subst hnm; exact hRH
      clear hnm
      go_loopw [11] (fun v w' => ∃ (pos : Nat) (v : World), w' = v.iter nm pos ∧ pos ≤ nm.size ∧ v.heap.size = wr.heap.size ∧ Hid (LowB (lo8 xi) (lo8 yi) (lo8 zi) v w.heap.size) ∧ Below w.heap.size w v
        ∧ Hid (findN nm (strOfNums [lo8 xi, lo8 yi, lo8 zi]) (nm.size + 1 - pos) pos = findN nm (strOfNums [lo8 xi, lo8 yi, lo8 zi]) (nm.size + 1) 0)) (fun _ w' => nm.size - w'.iterPos wr.heap.size)
      case atStart => exact ⟨0, wr, rfl, by omega, rfl, hLB, hB, rfl⟩
      case round =>
        obtain ⟨pos, v, rfl, hps, hvs, hLv, hBv, hF⟩ := hrel
        by_cases hp : pos < nm.size
        · have hnx : ∀ ty, (Instr.next (.pointer (some ⟨v.heap.size, 0, none⟩)) true ty).run Tryz.prog (v.iter nm pos) = _ := fun ty => run_next_any v nm pos ty hp
          rw [decode_ascii nm pos hp (hasc.out pos hp), hvs] at hnx
          by_cases h3 : pos % 3 = 0
          · have h3b : ((pos : Int).tmod 3 == 0) = true := by rw [beq_iff_eq, Int.tmod_eq_emod_of_nonneg (by omega)]; omega
            have hl3 : (pos : Int) + 3 ≤ (nm.size : Int) := by omega
            have hw3 : wrap64 ((pos : Int) + 3) = (pos : Int) + 3 := by unfold wrap64; omega
            have hLi : LowB (lo8 xi) (lo8 yi) (lo8 zi) (v.iter nm (pos + 1)) w.heap.size := hLv.out.heap (by
              have hlt : w.heap.size < v.heap.size := World.block_lt_of_cell? _ _ hLv.out.1.1
              exact Below.heap_alloc _ _ _ hlt)
            have hsl : ∀ W, (Instr.slice 9 (.string nm) (some (.int .i64 (pos : Int))) (some (.int .i64 ((pos : Int) + 3))) none).run Tryz.prog W = .ok (.string (nm.extract pos (pos + 3))) W := fun W => by
              have := run_slice_string (P := Tryz.prog) W 9 nm .i64 .i64 (pos : Int) ((pos : Int) + 3) Tryz.underlying9 (by omega) (by omega) (by omega)
              rw [show ((pos : Int) + 3).toNat = pos + 3 by omega, Int.toNat_natCast] at this
              exact this
            go_wp2
            generalize hV : v.iter nm (pos + 1) = v1 at *
            have hLd : LowB (lo8 xi) (lo8 yi) (lo8 zi) v1.drew w.heap.size := hLi.heap rfl
            have hcv := hLd.conv (grownCap w 3 0 5)
            obtain ⟨⟨m0, m1, m2⟩, _, _, _⟩ := hLd
            refine start_ (n := 13) (S := fun w' => w'.cell? ⟨w.heap.size, 0, none⟩ = some (.int .u8 (lo8 xi)) ∧ w'.cell? ⟨w.heap.size, 1, none⟩ = some (.int .u8 (lo8 yi)) ∧ w'.cell? ⟨w.heap.size, 2, none⟩ = some (.int .u8 (lo8 zi))) (ds := []) #[false, false, false, false, false, false, false, false, false, false, false, false, false] (by kernel_rfl) rfl rfl ⟨m0, m1, m2⟩ (fun hHeld => ?_)
            refine pure_ (i := 0) (N := some 47) (v := ?_) (a' := ?_) #[true, false, false, false, false, false, false, false, false, false, false, false, false] rfl rfl (by kernel_rfl) (fun _ _ _ h => h) (Or.inl ⟨by rfl, ?_⟩) ?_ ?_
            rotate_left
            · intro w'
              go_simp
              with_reducible rfl
            rotate_left
            · simp only [Act.put, List.setIfInBounds_toArray, List.set_cons_zero, List.set_cons_succ, i64_w, i32_w]
              rfl
            refine pure_ (i := 1) (N := some 48) (v := ?_) (a' := ?_) #[true, true, false, false, false, false, false, false, false, false, false, false, false] rfl rfl (by kernel_rfl) (fun _ _ _ h => h) (Or.inl ⟨by rfl, ?_⟩) ?_ ?_
            rotate_left
            · intro w'
              go_simp
              with_reducible rfl
            rotate_left
            · simp only [Act.put, List.setIfInBounds_toArray, List.set_cons_zero, List.set_cons_succ, i64_w, i32_w]
              rfl
            refine pure_ (i := 2) (N := some 49) (v := ?_) (a' := ?_) #[true, true, true, false, false, false, false, false, false, false, false, false, false] rfl rfl (by kernel_rfl) (fun _ _ _ h => h) (Or.inl ⟨by rfl, ?_⟩) ?_ ?_
            rotate_left
            · intro w'
              go_simp
              with_reducible rfl
            rotate_left
            · simp only [Act.put, List.setIfInBounds_toArray, List.set_cons_zero, List.set_cons_succ, i64_w, i32_w]
              rfl
            refine pure_ (i := 3) (N := some 50) (v := ?_) (a' := ?_) #[true, true, true, true, false, false, false, false, false, false, false, false, false] rfl rfl (by kernel_rfl) (fun _ _ _ h => h) (Or.inl ⟨by rfl, ?_⟩) ?_ ?_
            rotate_left
            · intro w'
              go_simp
              with_reducible rfl
            rotate_left
            · simp only [Act.put, List.setIfInBounds_toArray, List.set_cons_zero, List.set_cons_succ, i64_w, i32_w]
              rfl
            refine pure_ (i := 4) (N := some 51) (v := ?_) (a' := ?_) #[true, true, true, true, true, false, false, false, false, false, false, false, false] rfl rfl (by kernel_rfl) (fun _ _ _ h => h) (Or.inl ⟨by rfl, ?_⟩) ?_ ?_
            rotate_left
            · intro w'
              go_simp
              with_reducible rfl
            rotate_left
            · simp only [Act.put, List.setIfInBounds_toArray, List.set_cons_zero, List.set_cons_succ, i64_w, i32_w]
              rfl
            refine pure_ (i := 5) (N := some 52) (v := ?_) (a' := ?_) #[true, true, true, true, true, true, false, false, false, false, false, false, false] rfl rfl (by kernel_rfl) (fun _ _ _ h => h) (Or.inl ⟨by rfl, ?_⟩) ?_ ?_
            rotate_left
            · intro w'
              go_simp
              with_reducible rfl
            rotate_left
            · simp only [Act.put, List.setIfInBounds_toArray, List.set_cons_zero, List.set_cons_succ, i64_w, i32_w]
              rfl
            refine pure_ (i := 6) (N := some 53) (v := ?_) (a' := ?_) #[true, true, true, true, true, true, true, false, false, false, false, false, false] rfl rfl (by kernel_rfl) (fun _ _ _ h => h) (Or.inl ⟨by rfl, ?_⟩) ?_ ?_
            rotate_left
            · intro w'
              go_simp
              with_reducible rfl
            rotate_left
            · simp only [Act.put, List.setIfInBounds_toArray, List.set_cons_zero, List.set_cons_succ, i64_w, i32_w]
              rfl
            refine pure_ (i := 7) (N := some 54) (v := ?_) (a' := ?_) #[true, true, true, true, true, true, true, true, false, false, false, false, false] rfl rfl (by kernel_rfl) (fun _ _ _ h => h) (Or.inl ⟨by rfl, ?_⟩) ?_ ?_
            rotate_left
            · intro w'
              go_simp
              with_reducible rfl
            rotate_left
            · simp only [Act.put, List.setIfInBounds_toArray, List.set_cons_zero, List.set_cons_succ, i64_w, i32_w]
              rfl
            refine pure_ (i := 8) (N := some 55) (v := ?_) (a' := ?_) #[true, true, true, true, true, true, true, true, true, false, false, false, false] rfl rfl (by kernel_rfl) (fun _ _ _ h => h) (Or.inl ⟨by rfl, ?_⟩) ?_ ?_
            rotate_left
            · intro w'
              go_simp
              with_reducible rfl
            rotate_left
            · simp only [Act.put, List.setIfInBounds_toArray, List.set_cons_zero, List.set_cons_succ, i64_w, i32_w]
              rfl
            refine pure_ (i := 9) (N := some 56) (v := ?_) (a' := ?_) #[true, true, true, true, true, true, true, true, true, true, false, false, false] rfl rfl (by kernel_rfl) (fun _ _ _ h => h) (Or.inl ⟨by rfl, ?_⟩) ?_ ?_
            rotate_left
            · intro w'
              go_simp
              with_reducible rfl
            rotate_left
            · simp only [Act.put, List.setIfInBounds_toArray, List.set_cons_zero, List.set_cons_succ, i64_w, i32_w]
              rfl
            refine one_ (i := 10) (N := some 57) #[true, true, true, true, true, true, true, true, true, true, true, false, false] rfl rfl (by kernel_rfl) (by decide) (fun K hK => ?_)
            refine value_ (w1 := ?_) (v := ?_) (by rfl) rfl ?_ ?_
            rotate_left 2
            · go_simp
              constructor
              · rfl
              · rfl
            refine hK.out _ _ ⟨m0, m1, m2⟩ (fun hHeld => ?_)
            clear hK K
            refine norm_ (a' := ?_) ?_ ?_
            rotate_left
            · show Act.put _ (some 57) _ = _
              simp only [Act.put, List.setIfInBounds_toArray, List.set_cons_zero, List.set_cons_succ, i64_w, i32_w]
              rfl
            refine pure_ (i := 11) (N := some 58) (v := ?_) (a' := ?_) #[true, true, true, true, true, true, true, true, true, true, true, true, false] rfl rfl (by kernel_rfl) (fun _ _ _ h => h) (Or.inl ⟨by rfl, ?_⟩) ?_ ?_
            rotate_left
            · intro w'
              go_simp
              with_reducible rfl
            rotate_left
            · simp only [Act.put, List.setIfInBounds_toArray, List.set_cons_zero, List.set_cons_succ, i64_w, i32_w]
              rfl
            refine pure_ (i := 12) (N := some 59) (v := ?_) (a' := ?_) #[true, true, true, true, true, true, true, true, true, true, true, true, true] rfl rfl (by kernel_rfl) (fun _ _ _ h => h) (Or.inl ⟨by rfl, ?_⟩) ?_ ?_
            rotate_left
            · intro w'
              go_simp
              with_reducible rfl
            rotate_left
            · simp only [Act.put, List.setIfInBounds_toArray, List.set_cons_zero, List.set_cons_succ, i64_w, i32_w]
              rfl
            refine done_ (by kernel_rfl) ?_

            clear m0 m1 m2 hHeld hcv hsl
            by_cases heq : nm.extract pos (pos + 3) = strOfNums [lo8 xi, lo8 yi, lo8 zi]
            · have hfin := Lib.hid (show R = ((pos : Int) / 3 + 1, 0) by
                rw [← hRH.out, show 37 = nm.size + 1 by omega, ← hF.out, show nm.size + 1 - pos = (nm.size + 1 - (pos + 1)) + 1 by omega, findN_step, if_pos hp, if_pos ⟨h3, heq⟩]
                rfl)
              have hq1 : ((nm.extract pos (pos + 3)).toList == (strOfNums [lo8 xi, lo8 yi, lo8 zi]).toList) = true := by rw [heq]; exact beq_self_eq_true _
              clear hF heq
              go_wp2
              · go_ret2
                rw [hfin.out]
                refine ⟨rfl, ?_⟩
                subst hV
                exact (hBv.alloc hBv.size _).drew
              · rename_i hh
                exact absurd (hh.symm.trans hq1) (by decide)
            · have hF2 : Hid (findN nm (strOfNums [lo8 xi, lo8 yi, lo8 zi]) (nm.size + 1 - (pos + 1)) (pos + 1) = findN nm (strOfNums [lo8 xi, lo8 yi, lo8 zi]) (nm.size + 1) 0) := by
                rw [← hF.out, show nm.size + 1 - pos = (nm.size + 1 - (pos + 1)) + 1 by omega]
                rw [findN_step, if_pos hp, if_neg (fun h => heq h.2)]
                exact rfl
              have hq1 : ((nm.extract pos (pos + 3)).toList == (strOfNums [lo8 xi, lo8 yi, lo8 zi]).toList) = false := by
                rw [beq_eq_false_iff_ne]
                intro h
                rw [ByteArray.toList_eq, ByteArray.toList_eq] at h
                refine heq ?_
                generalize nm.extract pos (pos + 3) = A at h ⊢
                generalize strOfNums [lo8 xi, lo8 yi, lo8 zi] = B at h ⊢
                cases A
                cases B
                congr 1
                exact Array.toList_inj.1 h
              clear hF heq
              go_wp2
              · rename_i hh
                exact absurd (hh.symm.trans hq1) (by decide)
              subst hV
              refine ⟨⟨_, _, _, _, _, _, _, _, _, _, _, _, _, _, _, _, _, _, _, _, _, _, _, ⟨pos + 1, v.drew, rfl, by omega, hvs, hLv, hBv.drew, hF2⟩, rfl⟩, ?_⟩
              rw [iterPos_drew, ← hvs]
              simp
              omega
          · have h3b : ((pos : Int) % 3 == 0) = false := by rw [beq_eq_false_iff_ne]; omega
            have hF2 : Hid (findN nm (strOfNums [lo8 xi, lo8 yi, lo8 zi]) (nm.size + 1 - (pos + 1)) (pos + 1) = findN nm (strOfNums [lo8 xi, lo8 yi, lo8 zi]) (nm.size + 1) 0) := by
              rw [← hF.out, show nm.size + 1 - pos = (nm.size + 1 - (pos + 1)) + 1 by omega]
              rw [findN_step, if_pos hp, if_neg (by omega)]
              exact rfl
            clear hF
            go_wp2
            go_quiet (fail)
            go_wp2
            go_roundw
            case rel => exact ⟨_, _, _, _, _, _, _, _, _, _, _, _, _, _, _, _, _, _, _, _, _, _, _, ⟨pos + 1, v.drewN _, iter_drewN _ _ _ _, by omega, hvs, hLv, hBv.drewN _, hF2⟩, rfl⟩
            case measure => rw [iterPos_drewN, ← hvs]; simp; omega
        · have hnx : ∀ ty, (Instr.next (.pointer (some ⟨v.heap.size, 0, none⟩)) true ty).run Tryz.prog (v.iter nm pos) = _ := fun ty => run_next_end v nm pos ty hp
          rw [hvs] at hnx
          have hfin := Lib.hid (show R = (0, 2) by
            rw [← hRH.out, show 37 = nm.size + 1 by omega, ← hF.out, show nm.size + 1 - pos = (nm.size - pos) + 1 by omega, findN_step, if_neg hp]
            rfl)
          clear hF
          go_wp2
          go_ret2
          rw [hfin.out]
          exact ⟨rfl, hBv.alloc hBv.size _⟩

set_option maxRecDepth 100000 in
set_option maxHeartbeats 2000000 in
theorem name_day (x y z : UInt8) (w : World) (R : Int × Int) (hR : nameR (findN daysT (strOfNums [lo8 x.toNat, lo8 y.toNat, lo8 z.toNat]) 22 0) 0 = R) :
    Calls Tryz.prog 135 #[.string ⟨#[x, y, z]⟩, .int .i64 4] w fun e w' => e = .returned (.tuple #[.int .i64 R.1, .int .i64 R.2]) ∧ Below w.heap.size w w' := by
  have hRH := Lib.hid hR
  clear hR
  have hcv := fun W => conv_q ⟨#[x, y, z]⟩ W
  have hL := low_new w x y z
  have hbW := Lib.bytesWorld_below w 5 ⟨#[x, y, z]⟩
  have hx : 0 ≤ (x.toNat : Int) ∧ (x.toNat : Int) < 256 := ⟨by omega, by have := x.toNat_lt; omega⟩
  have hy : 0 ≤ (y.toNat : Int) ∧ (y.toNat : Int) < 256 := ⟨by omega, by have := y.toNat_lt; omega⟩
  have hz : 0 ≤ (z.toNat : Int) ∧ (z.toNat : Int) < 256 := ⟨by omega, by have := z.toNat_lt; omega⟩
  generalize (x.toNat : Int) = xi at *
  generalize (y.toNat : Int) = yi at *
  generalize (z.toNat : Int) = zi at *
  go_enter Tryz.func135, Tryz.ntmps135
  go_wp2
  generalize Lib.bytesWorld w 5 ⟨#[x, y, z]⟩ = W1 at *
  clear hcv
  go_loopg [24] 3 (fun g v24 W' => ∃ i : Nat, i + g = 3 ∧ v24 = .int .i64 i ∧ (∃ a b c, Hid (lows xi yi zi i a b c) ∧ Hid (LowB a b c W' w.heap.size)) ∧ Below w.heap.size w W')
  case atStart => exact ⟨0, rfl, rfl, ⟨xi, yi, zi, .inl ⟨rfl, rfl, rfl, rfl⟩, hL⟩, hbW⟩
  case round =>
    obtain ⟨i, hi, rfl, ⟨a, b, c, hl, hLB⟩, hB⟩ := hrel
    obtain ⟨⟨l0, l1, l2⟩, z0, z1, z2⟩ := hLB.out
    obtain rfl | rfl | rfl | rfl : i = 0 ∨ i = 1 ∨ i = 2 ∨ i = 3 := by omega
    · have hl2 := Lib.hid (lows0 hl.out)
      clear hl
      cases h1 : decide (65 ≤ a) <;> cases h2 : decide (a ≤ 90)
      · rw [lo8_no1 h1] at hl2
        go_wp2
        go_roundg (gk - 1)
        case measure => omega
        case rel => exact ⟨1, by omega, rfl, ⟨a, b, c, hl2, hLB⟩, hB⟩
      · rw [lo8_no1 h1] at hl2
        go_wp2
        go_roundg (gk - 1)
        case measure => omega
        case rel => exact ⟨1, by omega, rfl, ⟨a, b, c, hl2, hLB⟩, hB⟩
      · rw [lo8_no2 h2] at hl2
        go_wp2
        go_roundg (gk - 1)
        case measure => omega
        case rel => exact ⟨1, by omega, rfl, ⟨a, b, c, hl2, hLB⟩, hB⟩
      · rw [lo8_up h1 h2] at hl2
        have hLB2 := fun v => Lib.hid (hLB.out.set0 v)
        go_wp2
        go_roundg (gk - 1)
        case measure => omega
        case rel => exact ⟨1, by omega, rfl, ⟨_, _, _, hl2, hLB2 _⟩, hB.setCell (p := ⟨w.heap.size, 0, none⟩) (Nat.le_refl _) _⟩
    · have hl2 := Lib.hid (lows1 hl.out)
      clear hl
      cases h1 : decide (65 ≤ b) <;> cases h2 : decide (b ≤ 90)
      · rw [lo8_no1 h1] at hl2
        go_wp2
        go_roundg (gk - 1)
        case measure => omega
        case rel => exact ⟨2, by omega, rfl, ⟨a, b, c, hl2, hLB⟩, hB⟩
      · rw [lo8_no1 h1] at hl2
        go_wp2
        go_roundg (gk - 1)
        case measure => omega
        case rel => exact ⟨2, by omega, rfl, ⟨a, b, c, hl2, hLB⟩, hB⟩
      · rw [lo8_no2 h2] at hl2
        go_wp2
        go_roundg (gk - 1)
        case measure => omega
        case rel => exact ⟨2, by omega, rfl, ⟨a, b, c, hl2, hLB⟩, hB⟩
      · rw [lo8_up h1 h2] at hl2
        have hLB2 := fun v => Lib.hid (hLB.out.set1 v)
        go_wp2
        go_roundg (gk - 1)
        case measure => omega
        case rel => exact ⟨2, by omega, rfl, ⟨_, _, _, hl2, hLB2 _⟩, hB.setCell (p := ⟨w.heap.size, 1, none⟩) (Nat.le_refl _) _⟩
    · have hl2 := Lib.hid (lows2 hl.out)
      clear hl
      cases h1 : decide (65 ≤ c) <;> cases h2 : decide (c ≤ 90)
      · rw [lo8_no1 h1] at hl2
        go_wp2
        go_roundg (gk - 1)
        case measure => omega
        case rel => exact ⟨3, by omega, rfl, ⟨a, b, c, hl2, hLB⟩, hB⟩
      · rw [lo8_no1 h1] at hl2
        go_wp2
        go_roundg (gk - 1)
        case measure => omega
        case rel => exact ⟨3, by omega, rfl, ⟨a, b, c, hl2, hLB⟩, hB⟩
      · rw [lo8_no2 h2] at hl2
        go_wp2
        go_roundg (gk - 1)
        case measure => omega
        case rel => exact ⟨3, by omega, rfl, ⟨a, b, c, hl2, hLB⟩, hB⟩
      · rw [lo8_up h1 h2] at hl2
        have hLB2 := fun v => Lib.hid (hLB.out.set2 v)
        go_wp2
        go_roundg (gk - 1)
        case measure => omega
        case rel => exact ⟨3, by omega, rfl, ⟨_, _, _, hl2, hLB2 _⟩, hB.setCell (p := ⟨w.heap.size, 2, none⟩) (Nat.le_refl _) _⟩
    · obtain ⟨rfl, rfl, rfl⟩ := lows3 hl.out
      clear hl
      go_wp2
      generalize hnm : (⟨#[115, 117, 110, 109, 111, 110, 116, 117, 101, 119, 101, 100, 116, 104, 117, 102, 114, 105, 115, 97, 116]⟩ : ByteArray) = nm
      have hsz : nm.size = 21 := by subst hnm; rfl
      have hasc : Hid (∀ i (h : i < nm.size), nm[i].toNat < 128) := by subst hnm; exact (show ∀ i (h : i < 21), ((⟨#[115, 117, 110, 109, 111, 110, 116, 117, 101, 119, 101, 100, 116, 104, 117, 102, 114, 105, 115, 97, 116]⟩ : ByteArray)[i]'h).toNat < 128 by decide +kernel)
      have hRH : Hid (nameR (findN nm (strOfNums [lo8 xi, lo8 yi, lo8 zi]) 22 0) 0 = R) := by subst hnm; exact hRH
      clear hnm
      go_loopw [11] (fun v w' => ∃ (pos : Nat) (v : World), w' = v.iter nm pos ∧ pos ≤ nm.size ∧ v.heap.size = wr.heap.size ∧ Hid (LowB (lo8 xi) (lo8 yi) (lo8 zi) v w.heap.size) ∧ Below w.heap.size w v
        ∧ Hid (findN nm (strOfNums [lo8 xi, lo8 yi, lo8 zi]) (nm.size + 1 - pos) pos = findN nm (strOfNums [lo8 xi, lo8 yi, lo8 zi]) (nm.size + 1) 0)) (fun _ w' => nm.size - w'.iterPos wr.heap.size)
      case atStart => exact ⟨0, wr, rfl, by omega, rfl, hLB, hB, rfl⟩
      case round =>
        obtain ⟨pos, v, rfl, hps, hvs, hLv, hBv, hF⟩ := hrel
        by_cases hp : pos < nm.size
        · have hnx : ∀ ty, (Instr.next (.pointer (some ⟨v.heap.size, 0, none⟩)) true ty).run Tryz.prog (v.iter nm pos) = _ := fun ty => run_next_any v nm pos ty hp
          rw [decode_ascii nm pos hp (hasc.out pos hp), hvs] at hnx
          by_cases h3 : pos % 3 = 0
          · have h3b : ((pos : Int).tmod 3 == 0) = true := by rw [beq_iff_eq, Int.tmod_eq_emod_of_nonneg (by omega)]; omega
            have hl3 : (pos : Int) + 3 ≤ (nm.size : Int) := by omega
            have hw3 : wrap64 ((pos : Int) + 3) = (pos : Int) + 3 := by unfold wrap64; omega
            have hLi : LowB (lo8 xi) (lo8 yi) (lo8 zi) (v.iter nm (pos + 1)) w.heap.size := hLv.out.heap (by
              have hlt : w.heap.size < v.heap.size := World.block_lt_of_cell? _ _ hLv.out.1.1
              exact Below.heap_alloc _ _ _ hlt)
            have hsl : ∀ W, (Instr.slice 9 (.string nm) (some (.int .i64 (pos : Int))) (some (.int .i64 ((pos : Int) + 3))) none).run Tryz.prog W = .ok (.string (nm.extract pos (pos + 3))) W := fun W => by
              have := run_slice_string (P := Tryz.prog) W 9 nm .i64 .i64 (pos : Int) ((pos : Int) + 3) Tryz.underlying9 (by omega) (by omega) (by omega)
              rw [show ((pos : Int) + 3).toNat = pos + 3 by omega, Int.toNat_natCast] at this
              exact this
            go_wp2
            generalize hV : v.iter nm (pos + 1) = v1 at *
            have hLd : LowB (lo8 xi) (lo8 yi) (lo8 zi) v1.drew w.heap.size := hLi.heap rfl
            have hcv := hLd.conv (grownCap w 3 0 5)
            obtain ⟨⟨m0, m1, m2⟩, _, _, _⟩ := hLd
            refine start_ (n := 13) (S := fun w' => w'.cell? ⟨w.heap.size, 0, none⟩ = some (.int .u8 (lo8 xi)) ∧ w'.cell? ⟨w.heap.size, 1, none⟩ = some (.int .u8 (lo8 yi)) ∧ w'.cell? ⟨w.heap.size, 2, none⟩ = some (.int .u8 (lo8 zi))) (ds := []) #[false, false, false, false, false, false, false, false, false, false, false, false, false] (by kernel_rfl) rfl rfl ⟨m0, m1, m2⟩ (fun hHeld => ?_)
            refine pure_ (i := 0) (N := some 47) (v := ?_) (a' := ?_) #[true, false, false, false, false, false, false, false, false, false, false, false, false] rfl rfl (by kernel_rfl) (fun _ _ _ h => h) (Or.inl ⟨by rfl, ?_⟩) ?_ ?_
            rotate_left
            · intro w'
              go_simp
              with_reducible rfl
            rotate_left
            · simp only [Act.put, List.setIfInBounds_toArray, List.set_cons_zero, List.set_cons_succ, i64_w, i32_w]
              rfl
            refine pure_ (i := 1) (N := some 48) (v := ?_) (a' := ?_) #[true, true, false, false, false, false, false, false, false, false, false, false, false] rfl rfl (by kernel_rfl) (fun _ _ _ h => h) (Or.inl ⟨by rfl, ?_⟩) ?_ ?_
            rotate_left
            · intro w'
              go_simp
              with_reducible rfl
            rotate_left
            · simp only [Act.put, List.setIfInBounds_toArray, List.set_cons_zero, List.set_cons_succ, i64_w, i32_w]
              rfl
            refine pure_ (i := 2) (N := some 49) (v := ?_) (a' := ?_) #[true, true, true, false, false, false, false, false, false, false, false, false, false] rfl rfl (by kernel_rfl) (fun _ _ _ h => h) (Or.inl ⟨by rfl, ?_⟩) ?_ ?_
            rotate_left
            · intro w'
              go_simp
              with_reducible rfl
            rotate_left
            · simp only [Act.put, List.setIfInBounds_toArray, List.set_cons_zero, List.set_cons_succ, i64_w, i32_w]
              rfl
            refine pure_ (i := 3) (N := some 50) (v := ?_) (a' := ?_) #[true, true, true, true, false, false, false, false, false, false, false, false, false] rfl rfl (by kernel_rfl) (fun _ _ _ h => h) (Or.inl ⟨by rfl, ?_⟩) ?_ ?_
            rotate_left
            · intro w'
              go_simp
              with_reducible rfl
            rotate_left
            · simp only [Act.put, List.setIfInBounds_toArray, List.set_cons_zero, List.set_cons_succ, i64_w, i32_w]
              rfl
            refine pure_ (i := 4) (N := some 51) (v := ?_) (a' := ?_) #[true, true, true, true, true, false, false, false, false, false, false, false, false] rfl rfl (by kernel_rfl) (fun _ _ _ h => h) (Or.inl ⟨by rfl, ?_⟩) ?_ ?_
            rotate_left
            · intro w'
              go_simp
              with_reducible rfl
            rotate_left
            · simp only [Act.put, List.setIfInBounds_toArray, List.set_cons_zero, List.set_cons_succ, i64_w, i32_w]
              rfl
            refine pure_ (i := 5) (N := some 52) (v := ?_) (a' := ?_) #[true, true, true, true, true, true, false, false, false, false, false, false, false] rfl rfl (by kernel_rfl) (fun _ _ _ h => h) (Or.inl ⟨by rfl, ?_⟩) ?_ ?_
            rotate_left
            · intro w'
              go_simp
              with_reducible rfl
            rotate_left
            · simp only [Act.put, List.setIfInBounds_toArray, List.set_cons_zero, List.set_cons_succ, i64_w, i32_w]
              rfl
            refine pure_ (i := 6) (N := some 53) (v := ?_) (a' := ?_) #[true, true, true, true, true, true, true, false, false, false, false, false, false] rfl rfl (by kernel_rfl) (fun _ _ _ h => h) (Or.inl ⟨by rfl, ?_⟩) ?_ ?_
            rotate_left
            · intro w'
              go_simp
              with_reducible rfl
            rotate_left
            · simp only [Act.put, List.setIfInBounds_toArray, List.set_cons_zero, List.set_cons_succ, i64_w, i32_w]
              rfl
            refine pure_ (i := 7) (N := some 54) (v := ?_) (a' := ?_) #[true, true, true, true, true, true, true, true, false, false, false, false, false] rfl rfl (by kernel_rfl) (fun _ _ _ h => h) (Or.inl ⟨by rfl, ?_⟩) ?_ ?_
            rotate_left
            · intro w'
              go_simp
              with_reducible rfl
            rotate_left
            · simp only [Act.put, List.setIfInBounds_toArray, List.set_cons_zero, List.set_cons_succ, i64_w, i32_w]
              rfl
            refine pure_ (i := 8) (N := some 55) (v := ?_) (a' := ?_) #[true, true, true, true, true, true, true, true, true, false, false, false, false] rfl rfl (by kernel_rfl) (fun _ _ _ h => h) (Or.inl ⟨by rfl, ?_⟩) ?_ ?_
            rotate_left
            · intro w'
              go_simp
              with_reducible rfl
            rotate_left
            · simp only [Act.put, List.setIfInBounds_toArray, List.set_cons_zero, List.set_cons_succ, i64_w, i32_w]
              rfl
            refine pure_ (i := 9) (N := some 56) (v := ?_) (a' := ?_) #[true, true, true, true, true, true, true, true, true, true, false, false, false] rfl rfl (by kernel_rfl) (fun _ _ _ h => h) (Or.inl ⟨by rfl, ?_⟩) ?_ ?_
            rotate_left
            · intro w'
              go_simp
              with_reducible rfl
            rotate_left
            · simp only [Act.put, List.setIfInBounds_toArray, List.set_cons_zero, List.set_cons_succ, i64_w, i32_w]
              rfl
            refine one_ (i := 10) (N := some 57) #[true, true, true, true, true, true, true, true, true, true, true, false, false] rfl rfl (by kernel_rfl) (by decide) (fun K hK => ?_)
            refine value_ (w1 := ?_) (v := ?_) (by rfl) rfl ?_ ?_
            rotate_left 2
            · go_simp
              constructor
              · rfl
              · rfl
            refine hK.out _ _ ⟨m0, m1, m2⟩ (fun hHeld => ?_)
            clear hK K
            refine norm_ (a' := ?_) ?_ ?_
            rotate_left
            · show Act.put _ (some 57) _ = _
              simp only [Act.put, List.setIfInBounds_toArray, List.set_cons_zero, List.set_cons_succ, i64_w, i32_w]
              rfl
            refine pure_ (i := 11) (N := some 58) (v := ?_) (a' := ?_) #[true, true, true, true, true, true, true, true, true, true, true, true, false] rfl rfl (by kernel_rfl) (fun _ _ _ h => h) (Or.inl ⟨by rfl, ?_⟩) ?_ ?_
            rotate_left
            · intro w'
              go_simp
              with_reducible rfl
            rotate_left
            · simp only [Act.put, List.setIfInBounds_toArray, List.set_cons_zero, List.set_cons_succ, i64_w, i32_w]
              rfl
            refine pure_ (i := 12) (N := some 59) (v := ?_) (a' := ?_) #[true, true, true, true, true, true, true, true, true, true, true, true, true] rfl rfl (by kernel_rfl) (fun _ _ _ h => h) (Or.inl ⟨by rfl, ?_⟩) ?_ ?_
            rotate_left
            · intro w'
              go_simp
              with_reducible rfl
            rotate_left
            · simp only [Act.put, List.setIfInBounds_toArray, List.set_cons_zero, List.set_cons_succ, i64_w, i32_w]
              rfl
            refine done_ (by kernel_rfl) ?_

            clear m0 m1 m2 hHeld hcv hsl
            by_cases heq : nm.extract pos (pos + 3) = strOfNums [lo8 xi, lo8 yi, lo8 zi]
            · have hfin := Lib.hid (show R = ((pos : Int) / 3, 0) by
                rw [← hRH.out, show 22 = nm.size + 1 by omega, ← hF.out, show nm.size + 1 - pos = (nm.size + 1 - (pos + 1)) + 1 by omega, findN_step, if_pos hp, if_pos ⟨h3, heq⟩]
                simp [nameR])
              have hq1 : ((nm.extract pos (pos + 3)).toList == (strOfNums [lo8 xi, lo8 yi, lo8 zi]).toList) = true := by rw [heq]; exact beq_self_eq_true _
              clear hF heq
              go_wp2
              · go_ret2
                rw [hfin.out]
                refine ⟨rfl, ?_⟩
                subst hV
                exact (hBv.alloc hBv.size _).drew
              · rename_i hh
                exact absurd (hh.symm.trans hq1) (by decide)
            · have hF2 : Hid (findN nm (strOfNums [lo8 xi, lo8 yi, lo8 zi]) (nm.size + 1 - (pos + 1)) (pos + 1) = findN nm (strOfNums [lo8 xi, lo8 yi, lo8 zi]) (nm.size + 1) 0) := by
                rw [← hF.out, show nm.size + 1 - pos = (nm.size + 1 - (pos + 1)) + 1 by omega]
                rw [findN_step, if_pos hp, if_neg (fun h => heq h.2)]
                exact rfl
              have hq1 : ((nm.extract pos (pos + 3)).toList == (strOfNums [lo8 xi, lo8 yi, lo8 zi]).toList) = false := by
                rw [beq_eq_false_iff_ne]
                intro h
                rw [ByteArray.toList_eq, ByteArray.toList_eq] at h
                refine heq ?_
                generalize nm.extract pos (pos + 3) = A at h ⊢
                generalize strOfNums [lo8 xi, lo8 yi, lo8 zi] = B at h ⊢
                cases A
                cases B
                congr 1
                exact Array.toList_inj.1 h
              clear hF heq
              go_wp2
              · rename_i hh
                exact absurd (hh.symm.trans hq1) (by decide)
              subst hV
              refine ⟨⟨_, _, _, _, _, _, _, _, _, _, _, _, _, _, _, _, _, _, _, _, _, _, _, ⟨pos + 1, v.drew, rfl, by omega, hvs, hLv, hBv.drew, hF2⟩, rfl⟩, ?_⟩
              rw [iterPos_drew, ← hvs]
              simp
              omega
          · have h3b : ((pos : Int) % 3 == 0) = false := by rw [beq_eq_false_iff_ne]; omega
            have hF2 : Hid (findN nm (strOfNums [lo8 xi, lo8 yi, lo8 zi]) (nm.size + 1 - (pos + 1)) (pos + 1) = findN nm (strOfNums [lo8 xi, lo8 yi, lo8 zi]) (nm.size + 1) 0) := by
              rw [← hF.out, show nm.size + 1 - pos = (nm.size + 1 - (pos + 1)) + 1 by omega]
              rw [findN_step, if_pos hp, if_neg (by omega)]
              exact rfl
            clear hF
            go_wp2
            go_quiet (fail)
            go_wp2
            go_roundw
            case rel => exact ⟨_, _, _, _, _, _, _, _, _, _, _, _, _, _, _, _, _, _, _, _, _, _, _, ⟨pos + 1, v.drewN _, iter_drewN _ _ _ _, by omega, hvs, hLv, hBv.drewN _, hF2⟩, rfl⟩
            case measure => rw [iterPos_drewN, ← hvs]; simp; omega
        · have hnx : ∀ ty, (Instr.next (.pointer (some ⟨v.heap.size, 0, none⟩)) true ty).run Tryz.prog (v.iter nm pos) = _ := fun ty => run_next_end v nm pos ty hp
          rw [hvs] at hnx
          have hfin := Lib.hid (show R = (0, 2) by
            rw [← hRH.out, show 22 = nm.size + 1 by omega, ← hF.out, show nm.size + 1 - pos = (nm.size - pos) + 1 by omega, findN_step, if_neg hp]
            rfl)
          clear hF
          go_wp2
          go_ret2
          rw [hfin.out]
          exact ⟨rfl, hBv.alloc hBv.size _⟩

end Go.Proofs.YtkdejfedigiohaaGreatDoor

/- lex.Value at a name. -/
namespace Go.Proofs.YtkdejfedigiohaaGreatDoor
open Go.RowKit Go.Proofs.YtkdejfedigiohaaGreatDoorW.PrintWords Go.Proofs.YtkdejfedigiohaaGreatDoorW.PrintLast Go.Proofs.YtkdejfedigiohaaGreatDoorW.PrintMore
set_option linter.unusedVariables false
set_option linter.unusedSimpArgs false


set_option maxRecDepth 100000 in
set_option maxHeartbeats 2000000 in
theorem val1_any (s : ByteArray) (b c : Nat) (kind : Int) (M : Int × Int) (W : World) (hs : W.cell? ⟨b, 0, none⟩ = some (.string s)) (hk : W.cell? ⟨c, 0, none⟩ = some (.int .i64 kind))
    (hNm : ∀ w, Calls Tryz.prog 135 #[.string s, .int .i64 kind] w fun e w' => e = .returned (.tuple #[.int .i64 M.1, .int .i64 M.2]) ∧ Below w.heap.size w w') :
    Calls Tryz.prog 134 #[.pointer (some ⟨b, 0, none⟩), .pointer (some ⟨c, 0, none⟩)] W fun e w' => e = .returned (.tuple #[.int .i64 M.1, .int .i64 M.2]) ∧ Below W.heap.size W w' := by
  go_enter Tryz.func134, Tryz.ntmps134
  go_wp2_with fail
  refine (hNm _).mono ?_
  rintro e w1 ⟨rfl, hb⟩
  go_wp2
  go_ret2
  exact ⟨rfl, hb⟩

set_option maxRecDepth 100000 in
set_option maxHeartbeats 2000000 in
theorem value_nam (s : ByteArray) (kind : Int) (w : World) (h0 : 0 ≤ kind) (h1 : kind ≤ 4) (hs : 0 < s.size) (hd : digI (s[0].toNat : Int) = false) (M : Int × Int) (hNm : ∀ w, Calls Tryz.prog 135 #[.string s, .int .i64 kind] w fun e w' => e = .returned (.tuple #[.int .i64 M.1, .int .i64 M.2]) ∧ Below w.heap.size w w') :
    Calls Tryz.prog 109 #[.string s, .int .i64 kind] w fun e w' => e = .returned (.tuple #[.int .i64 (rangeI kind M).1, .int .i64 (rangeI kind M).2]) ∧ Below w.heap.size w w' := by
  have h2 : s.toList.isEmpty = false := by
    rw [ByteArray.toList_eq]
    cases h : s.data.toList with
    | nil => exact absurd (show s.data.toList.length = 0 by rw [h]; rfl) (by rw [size_toList]; omega)
    | cons a l => rfl
  have hq := digit_q (s[0].toNat : Int)
  rw [hd] at hq
  have hq := fun w => Lib.hid (hq w)
  have hv := fun W b c k l => Lib.hid (val1_any s b c kind M W k l hNm)
  clear hNm
  have hR : Hid (∀ n e, M = (n, e) → rangeI kind M = if e = 0 ∧ (n < lexLo kind ∨ lexHi kind < n) then (0, 1) else (n, e)) := fun n e h => by rw [h]; rfl
  generalize hN : rangeI kind M = R at hR ⊢
  obtain ⟨n, er⟩ := M
  have hR := hR.out n er rfl
  have hRH := Lib.hid hR
  clear hR hN
  have e1 := eg_val1
  have hw32 : wrap32 (s[0].toNat : Int) = s[0].toNat := by
    have := s[0].toNat_lt
    unfold wrap32; omega
  clear hd
  go_enter Tryz.func109, Tryz.ntmps109
  go_wp2_with fail
  refine (limits_q kind _ h0 h1).mono ?_
  rintro e w1 ⟨rfl, rfl⟩
  go_wp2_with fail
  refine (hq _).out.mono ?_
  rintro e w1 ⟨rfl, rfl⟩
  go_wp2_with fail
  refine (hv _ _ _ (by go_simp) (by go_simp)).out.mono ?_
  rintro e w1 ⟨rfl, hb⟩
  have hb0 : Below w.heap.size w w1 := ((Below.refl _ _).alloc (Nat.le_refl _) _).alloc (by simp) _ |>.trans (hb.mono (by simp; omega))
  clear hb
  by_cases he : er = 0
  · subst he
    by_cases hlo : n < lexLo kind
    · have hR2 := Lib.hid (show R = (0, 1) by rw [hRH.out, if_pos ⟨rfl, .inl hlo⟩])
      clear hRH hR
      go_wp2
      go_ret2
      exact ⟨by rw [hR2.out]; rfl, hb0⟩
    · by_cases hhi : lexHi kind < n
      · have hR2 := Lib.hid (show R = (0, 1) by rw [hRH.out, if_pos ⟨rfl, .inr hhi⟩])
        clear hRH hR
        go_wp2
        go_ret2
        exact ⟨by rw [hR2.out]; rfl, hb0⟩
      · have hR2 := Lib.hid (show R = (n, 0) by rw [hRH.out, if_neg (fun h => by rcases h.2 with h | h <;> omega)])
        clear hRH hR
        go_wp2
        go_ret2
        exact ⟨by rw [hR2.out]; rfl, hb0⟩
  · have heb : (er == 0) = false := by simpa using he
    have hR2 := Lib.hid (show R = (n, er) by rw [hRH.out, if_neg (fun h => he h.1)])
    clear he
    clear hRH hR
    go_wp2
    go_ret2
    exact ⟨by rw [hR2.out]; rfl, hb0⟩

end Go.Proofs.YtkdejfedigiohaaGreatDoor

/- The text that the show laws begin with: what it is parsed to. -/
namespace Go.Proofs.YtkdejfedigiohaaGreatDoor
open Go.RowKit Go.Proofs.YtkdejfedigiohaaGreatDoorW.PrintWords Go.Proofs.YtkdejfedigiohaaGreatDoorW.PrintLast Go.Proofs.YtkdejfedigiohaaGreatDoorW.PrintMore
set_option linter.unusedVariables false
set_option linter.unusedSimpArgs false


theorem num_item (t : ByteArray) (kind v : Int) (h0 : 0 ≤ kind) (h1 : kind ≤ 4) (v0 : 0 ≤ v) (v1 : v ≤ 59) (hs : t.size < 4294967281) (hp : 0 < t.size) (hd : digI (t[0].toNat : Int) = true)
    (hcut : Lib.cut t.data.toList [47] = (t.data.toList, (⟨#[]⟩ : ByteArray).data.toList, false)) (hc : Lib.countB t ⟨#[45]⟩ = 0) (hsp : Lib.splitB ⟨#[45]⟩ 0 0 t = [t]) (hns : t.toList ≠ [42]) (hn : rangeI kind (numL t.data.toList) = (v, 0)) : ItemOk kind t v v 1 :=
  item_num t kind v h0 h1 v0 v1 hs hp hd hcut hc hsp hns hn

def txj : ByteArray := ⟨#[74, 65, 78]⟩
def txm : ByteArray := ⟨#[77, 65, 82]⟩
def txjm : ByteArray := ⟨#[74, 65, 78, 45, 77, 65, 82, 47, 50]⟩
theorem val_jan : ValIs txj 3 1 := fun w => value_nam txj 3 w (by decide) (by decide) (by decide) (by decide) (1, 0) (fun w => name_month 74 65 78 w (1, 0) (by decide +kernel))
theorem val_mar : ValIs txm 3 3 := fun w => value_nam txm 3 w (by decide) (by decide) (by decide) (by decide) (3, 0) (fun w => name_month 77 65 82 w (3, 0) (by decide +kernel))
theorem item_jm : ItemOk 3 txjm 1 3 2 where
  k0 := by decide
  k1 := by decide
  lo0 := by decide
  hi1 := by decide
  st0 := by decide
  st1 := by decide
  size := by decide
  ex := ⟨⟨#[74, 65, 78, 45, 77, 65, 82]⟩, ⟨#[50]⟩, true, 2, #[.string txj, .string txm], by decide +kernel, by decide, by decide, by decide +kernel, by decide +kernel,
    by rw [show Lib.splitB ⟨#[45]⟩ 0 (Lib.countB ⟨#[74, 65, 78, 45, 77, 65, 82]⟩ ⟨#[45]⟩) ⟨#[74, 65, 78, 45, 77, 65, 82]⟩ = [txj, txm] by decide +kernel]; rfl, by omega, fun _ _ => rfl,
    .inr (.inr ⟨by decide +kernel, rfl, by decide, txj, txm, rfl, val_jan, val_mar⟩), .inr ⟨rfl, by decide +kernel, by decide⟩⟩
def tx1 : ByteArray := ⟨#[49]⟩
def tx2 : ByteArray := ⟨#[50]⟩
def tx6 : ByteArray := ⟨#[54]⟩
def tx7 : ByteArray := ⟨#[55]⟩
def tx012 : ByteArray := ⟨#[48, 44, 49, 44, 50]⟩
def tx56 : ByteArray := ⟨#[53, 44, 54]⟩
theorem pf012 : PF tx012 0 false [(tx0, 0, 0, 1), (tx1, 1, 1, 1), (tx2, 2, 2, 1)] where
  size := by decide
  star := by decide +kernel
  split := by decide +kernel
  n := by decide +kernel
  len := by decide
  items := by
    intro x hx
    simp only [List.mem_cons, List.mem_nil_iff, or_false] at hx
    rcases hx with rfl | rfl | rfl
    · exact item_num tx0 0 0 (by decide) (by decide) (by decide) (by decide) (by decide) (by decide) (by decide +kernel) (by decide +kernel) (by decide +kernel) (by decide +kernel) (by decide +kernel) (by decide +kernel)
    · exact item_num tx1 0 1 (by decide) (by decide) (by decide) (by decide) (by decide) (by decide) (by decide +kernel) (by decide +kernel) (by decide +kernel) (by decide +kernel) (by decide +kernel) (by decide +kernel)
    · exact item_num tx2 0 2 (by decide) (by decide) (by decide) (by decide) (by decide) (by decide) (by decide +kernel) (by decide +kernel) (by decide +kernel) (by decide +kernel) (by decide +kernel) (by decide +kernel)
theorem pf56 : PF tx56 1 false [(tx5, 5, 5, 1), (tx6, 6, 6, 1)] where
  size := by decide
  star := by decide +kernel
  split := by decide +kernel
  n := by decide +kernel
  len := by decide
  items := by
    intro x hx
    simp only [List.mem_cons, List.mem_nil_iff, or_false] at hx
    rcases hx with rfl | rfl
    · exact item_num tx5 1 5 (by decide) (by decide) (by decide) (by decide) (by decide) (by decide) (by decide +kernel) (by decide +kernel) (by decide +kernel) (by decide +kernel) (by decide +kernel) (by decide +kernel)
    · exact item_num tx6 1 6 (by decide) (by decide) (by decide) (by decide) (by decide) (by decide) (by decide +kernel) (by decide +kernel) (by decide +kernel) (by decide +kernel) (by decide +kernel) (by decide +kernel)
theorem pfjm : PF txjm 3 false [(txjm, 1, 3, 2)] := pf_one _ _ _ _ _ _ item_jm (by decide +kernel) (by decide +kernel) (by decide +kernel)
theorem pf7 : PF tx7 4 false [(tx7, 7, 7, 1)] := pf_one _ _ _ _ _ _ (item_num tx7 4 7 (by decide) (by decide) (by decide) (by decide) (by decide) (by decide) (by decide +kernel) (by decide +kernel) (by decide +kernel) (by decide +kernel) (by decide +kernel) (by decide +kernel)) (by decide +kernel) (by decide +kernel) (by decide +kernel)
/-- '0,1,2  5,6 * JAN-MAR/2 7' -/
def txT : ByteArray := ⟨#[48, 44, 49, 44, 50, 32, 32, 53, 44, 54, 32, 42, 32, 74, 65, 78, 45, 77, 65, 82, 47, 50, 32, 55]⟩
theorem wT : wordsL txT = [tx012, tx56, ⟨#[42]⟩, txjm, tx7] := by decide +kernel
theorem txT_ok : ∀ i (h : i < txT.size), txT[i].toNat < 128 ∧ knownI (txT[i].toNat : Int) = true := by decide +kernel
def gT : Sp := ⟨⟨7, false⟩, ⟨96, false⟩, ⟨4294967294, true⟩, ⟨10, false⟩, ⟨1, false⟩⟩
theorem b012 : bitsI 0 0 [(tx0, 0, 0, 1), (tx1, 1, 1, 1), (tx2, 2, 2, 1)] = 7 := by decide +kernel
theorem b56 : bitsI 1 0 [(tx5, 5, 5, 1), (tx6, 6, 6, 1)] = 96 := by decide +kernel
theorem bjm : bitsI 3 0 [(txjm, 1, 3, 2)] = 10 := by decide +kernel
theorem b7 : bitsI 4 0 [(tx7, 7, 7, 1)] = 1 := by decide +kernel
theorem pT (w : World) (hE : Env w) (h8 : 8 ≤ w.heap.size) : Calls Tryz.prog 34 #[.string txT] w fun e w' => e = .returned (.tuple #[.agg #[.int .u64 gT.m.b, .bool gT.m.s, .int .u64 gT.h.b, .bool gT.h.s, .int .u64 gT.d.b, .bool gT.d.s, .int .u64 gT.n.b, .bool gT.n.s, .int .u64 gT.w.b, .bool gT.w.s], .int .i64 0, .int .i64 0]) ∧ Below w.heap.size w w' := by
  have h := specParse_ok txT w tx012 tx56 ⟨#[42]⟩ txjm tx7 false false true false false _ _ _ _ _ hE h8 (by decide) txT_ok wT pf012 pf56 (pf_star 2 (by decide) (by decide)) pfjm pf7
  rw [b012, b56, bs2, bjm, b7] at h
  exact h

end Go.Proofs.YtkdejfedigiohaaGreatDoor

/- spec.Stars and spec.With. -/
namespace Go.Proofs.YtkdejfedigiohaaGreatDoor
open Go.RowKit Go.Proofs.YtkdejfedigiohaaGreatDoorW.PrintWords Go.Proofs.YtkdejfedigiohaaGreatDoorW.PrintLast Go.Proofs.YtkdejfedigiohaaGreatDoorW.PrintMore
set_option linter.unusedVariables false
set_option linter.unusedSimpArgs false

open Go.Proofs.YtkdejfedigiohaaGreatDoor.PR

theorem all_any (k : Int) (w : World) (h0 : 0 ≤ k) (h1 : k ≤ 4) : Calls Tryz.prog 56 #[.int .i64 k] w fun e w' => e = .returned (.tuple #[.agg #[.int .u64 (allB k), .bool true], .int .i64 0]) ∧ Below w.heap.size w w' := by
  obtain rfl | rfl | rfl | rfl | rfl : k = 0 ∨ k = 1 ∨ k = 2 ∨ k = 3 ∨ k = 4 := by omega
  all_goals exact field_All.calls _ _ _ _ w (by decide +kernel)
def spStars : Sp := ⟨⟨allB 0, true⟩, ⟨allB 1, true⟩, ⟨allB 2, true⟩, ⟨allB 3, true⟩, ⟨allB 4, true⟩⟩

structure SpJ (w : World) (xb cb : Nat) (x : Sp) (W : World) : Prop where
  below : Below w.heap.size w W
  r : SpB W w.heap.size sp0
  x : SpB W xb x
  c : W.cell? ⟨cb, 0, none⟩ = some (.pointer (some ⟨xb, 0, none⟩))
  lo : w.heap.size < xb
  cx : cb ≠ xb
  cl : cb < W.heap.size
theorem SpJ.on {w : World} {xb cb : Nat} {x : Sp} {W W' : World} (h : SpJ w xb cb x W) (hb : Below W.heap.size W W') : SpJ w xb cb x W' where
  below := h.below.trans (hb.mono h.below.size)
  r := blk_below h.r hb
  x := blk_below h.x hb
  c := (hb.cell (p := ⟨cb, 0, none⟩) h.cl).trans h.c
  lo := h.lo
  cx := h.cx
  cl := Nat.lt_of_lt_of_le h.cl hb.size
theorem SpJ.put {w : World} {xb cb : Nat} {x x' : Sp} {W : World} (h : SpJ w xb cb x W) (i j : Nat) (u v : Value) (hx : SpB ((W.setCell ⟨xb, i, none⟩ u).setCell ⟨xb, j, none⟩ v) xb x') :
    SpJ w xb cb x' ((W.setCell ⟨xb, i, none⟩ u).setCell ⟨xb, j, none⟩ v) := by
  have hK : KX xb W ((W.setCell ⟨xb, i, none⟩ u).setCell ⟨xb, j, none⟩ v) := (KX.set W i u).trans (KX.set _ j v)
  exact ⟨h.below.trans (hK.below (Nat.le_of_lt h.lo) h.below.size), hK.blk h.r (by have := h.lo; omega), hx, (World.cell?_of_block (w := W) (hK.block cb h.cl h.cx)).trans h.c, h.lo, h.cx, Nat.lt_of_lt_of_le h.cl hK.size⟩

set_option maxRecDepth 100000 in
set_option maxHeartbeats 2000000 in
theorem stars_any (w : World) : Calls Tryz.prog 23 #[] w fun e w' => e = .returned (.agg #[.int .u64 spStars.m.b, .bool spStars.m.s, .int .u64 spStars.h.b, .bool spStars.h.s, .int .u64 spStars.d.b, .bool spStars.d.s, .int .u64 spStars.n.b, .bool spStars.n.s, .int .u64 spStars.w.b, .bool spStars.w.s]) ∧ Below w.heap.size w w' := by
  go_enter Tryz.func23, Tryz.ntmps23
  go_wp2_with fail
  refine (fields_any _ _).mono ?_
  rintro e w2 ⟨rfl, hc, hsz, hb2⟩
  have hI : SpJ w (w.heap.size + 1) (w.heap.size + 1 + 1) sp0 w2 := by
    have hb : Below w.heap.size w ((w.alloc (.cells #[.int .u64 sp0.m.b, .bool sp0.m.s, .int .u64 sp0.h.b, .bool sp0.h.s, .int .u64 sp0.d.b, .bool sp0.d.s, .int .u64 sp0.n.b, .bool sp0.n.s, .int .u64 sp0.w.b, .bool sp0.w.s] 26)).alloc (.cells #[.int .u64 sp0.m.b, .bool sp0.m.s, .int .u64 sp0.h.b, .bool sp0.h.s, .int .u64 sp0.d.b, .bool sp0.d.s, .int .u64 sp0.n.b, .bool sp0.n.s, .int .u64 sp0.w.b, .bool sp0.w.s] 26)) := ((Below.refl _ _).alloc (Nat.le_refl _) _).alloc (by simp) _
    have hx : SpB ((w.alloc (.cells #[.int .u64 sp0.m.b, .bool sp0.m.s, .int .u64 sp0.h.b, .bool sp0.h.s, .int .u64 sp0.d.b, .bool sp0.d.s, .int .u64 sp0.n.b, .bool sp0.n.s, .int .u64 sp0.w.b, .bool sp0.w.s] 26)).alloc (.cells #[.int .u64 sp0.m.b, .bool sp0.m.s, .int .u64 sp0.h.b, .bool sp0.h.s, .int .u64 sp0.d.b, .bool sp0.d.s, .int .u64 sp0.n.b, .bool sp0.n.s, .int .u64 sp0.w.b, .bool sp0.w.s] 26)) (w.heap.size + 1) sp0 := blk_new2' _ _ _ (by simp)
    have hr : SpB ((w.alloc (.cells #[.int .u64 sp0.m.b, .bool sp0.m.s, .int .u64 sp0.h.b, .bool sp0.h.s, .int .u64 sp0.d.b, .bool sp0.d.s, .int .u64 sp0.n.b, .bool sp0.n.s, .int .u64 sp0.w.b, .bool sp0.w.s] 26)).alloc (.cells #[.int .u64 sp0.m.b, .bool sp0.m.s, .int .u64 sp0.h.b, .bool sp0.h.s, .int .u64 sp0.d.b, .bool sp0.d.s, .int .u64 sp0.n.b, .bool sp0.n.s, .int .u64 sp0.w.b, .bool sp0.w.s] 26)) w.heap.size sp0 := blk_alloc (blk_new _ _) _
    refine ⟨hb.trans (hb2.mono (by simp; omega)), blk_below hr hb2, blk_below hx hb2, ?_, by omega, by omega, by simp at hsz; omega⟩
    simpa only [World.size_alloc] using hc
  simp only [World.size_alloc]
  clear hb2 hsz hc
  generalize w.heap.size + 1 + 1 = cb at *
  generalize w.heap.size + 1 = xb at *
  go_wp2_with fail
  refine wp_loop_rounds 6 ?_
  -- round 0
  rw [rounds_succ]
  have ix := sfi0
  go_wp2_with fail
  refine (sfl0 ⟨cb, 0, none⟩ xb _ hI.c).mono ?_
  rintro e w3 ⟨rfl, rfl⟩
  go_wp2_with fail
  refine (all_any 0 _ (by decide) (by decide)).mono ?_
  rintro e w4 ⟨rfl, hb⟩
  have hI4 := hI.on hb
  clear hI hb ix
  have x0 := blk_cell hI4.x 0
  have x1 := blk_cell hI4.x 1
  have z0 := blk_frozen hI4.x 0
  have z1 := blk_frozen hI4.x 1
  simp only [List.getElem?_toArray, List.getElem?_cons_succ, List.getElem?_cons_zero] at x0 x1
  have hI5 := hI4.put 0 1 _ _ (hI4.x.put0 (allB 0) true)
  go_wp2_with fail
  clear hI4 x0 x1 z0 z1
  generalize (w4.setCell ⟨xb, 0, none⟩ _).setCell ⟨xb, 1, none⟩ _ = w2 at hI5 ⊢
  have hI := hI5
  clear hI5
  -- round 1
  rw [rounds_succ]
  have ix := sfi1
  go_wp2_with fail
  refine (sfl1 ⟨cb, 0, none⟩ xb _ hI.c).mono ?_
  rintro e w3 ⟨rfl, rfl⟩
  go_wp2_with fail
  refine (all_any 1 _ (by decide) (by decide)).mono ?_
  rintro e w4 ⟨rfl, hb⟩
  have hI4 := hI.on hb
  clear hI hb ix
  have x0 := blk_cell hI4.x 2
  have x1 := blk_cell hI4.x 3
  have z0 := blk_frozen hI4.x 2
  have z1 := blk_frozen hI4.x 3
  simp only [List.getElem?_toArray, List.getElem?_cons_succ, List.getElem?_cons_zero] at x0 x1
  have hI5 := hI4.put 2 3 _ _ (hI4.x.put1 (allB 1) true)
  go_wp2_with fail
  clear hI4 x0 x1 z0 z1
  generalize (w4.setCell ⟨xb, 2, none⟩ _).setCell ⟨xb, 3, none⟩ _ = w2 at hI5 ⊢
  have hI := hI5
  clear hI5
  -- round 2
  rw [rounds_succ]
  have ix := sfi2
  go_wp2_with fail
  refine (sfl2 ⟨cb, 0, none⟩ xb _ hI.c).mono ?_
  rintro e w3 ⟨rfl, rfl⟩
  go_wp2_with fail
  refine (all_any 2 _ (by decide) (by decide)).mono ?_
  rintro e w4 ⟨rfl, hb⟩
  have hI4 := hI.on hb
  clear hI hb ix
  have x0 := blk_cell hI4.x 4
  have x1 := blk_cell hI4.x 5
  have z0 := blk_frozen hI4.x 4
  have z1 := blk_frozen hI4.x 5
  simp only [List.getElem?_toArray, List.getElem?_cons_succ, List.getElem?_cons_zero] at x0 x1
  have hI5 := hI4.put 4 5 _ _ (hI4.x.put2 (allB 2) true)
  go_wp2_with fail
  clear hI4 x0 x1 z0 z1
  generalize (w4.setCell ⟨xb, 4, none⟩ _).setCell ⟨xb, 5, none⟩ _ = w2 at hI5 ⊢
  have hI := hI5
  clear hI5
  -- round 3
  rw [rounds_succ]
  have ix := sfi3
  go_wp2_with fail
  refine (sfl3 ⟨cb, 0, none⟩ xb _ hI.c).mono ?_
  rintro e w3 ⟨rfl, rfl⟩
  go_wp2_with fail
  refine (all_any 3 _ (by decide) (by decide)).mono ?_
  rintro e w4 ⟨rfl, hb⟩
  have hI4 := hI.on hb
  clear hI hb ix
  have x0 := blk_cell hI4.x 6
  have x1 := blk_cell hI4.x 7
  have z0 := blk_frozen hI4.x 6
  have z1 := blk_frozen hI4.x 7
  simp only [List.getElem?_toArray, List.getElem?_cons_succ, List.getElem?_cons_zero] at x0 x1
  have hI5 := hI4.put 6 7 _ _ (hI4.x.put3 (allB 3) true)
  go_wp2_with fail
  clear hI4 x0 x1 z0 z1
  generalize (w4.setCell ⟨xb, 6, none⟩ _).setCell ⟨xb, 7, none⟩ _ = w2 at hI5 ⊢
  have hI := hI5
  clear hI5
  -- round 4
  rw [rounds_succ]
  have ix := sfi4
  go_wp2_with fail
  refine (sfl4 ⟨cb, 0, none⟩ xb _ hI.c).mono ?_
  rintro e w3 ⟨rfl, rfl⟩
  go_wp2_with fail
  refine (all_any 4 _ (by decide) (by decide)).mono ?_
  rintro e w4 ⟨rfl, hb⟩
  have hI4 := hI.on hb
  clear hI hb ix
  have x0 := blk_cell hI4.x 8
  have x1 := blk_cell hI4.x 9
  have z0 := blk_frozen hI4.x 8
  have z1 := blk_frozen hI4.x 9
  simp only [List.getElem?_toArray, List.getElem?_cons_succ, List.getElem?_cons_zero] at x0 x1
  have hI5 := hI4.put 8 9 _ _ (hI4.x.put4 (allB 4) true)
  go_wp2_with fail
  clear hI4 x0 x1 z0 z1
  generalize (w4.setCell ⟨xb, 8, none⟩ _).setCell ⟨xb, 9, none⟩ _ = w2 at hI5 ⊢
  have hI := hI5
  clear hI5
  rw [rounds_succ]
  have hr := hI.r
  obtain ⟨c0, c1, c2, c3, c4, c5, c6, c7, c8, c9⟩ := hI.x.spIn
  obtain ⟨d0, d1, d2, d3, d4, d5, d6, d7, d8, d9⟩ := hr.spIn
  obtain ⟨z0, z1, z2, z3, z4, z5, z6, z7, z8, z9⟩ := hr.fz
  have hB := hI.below
  clear hI
  go_wp2
  have hB9 : Below w.heap.size w ((((((((((w2.setCell ⟨w.heap.size, 0, none⟩ (.int .u64 (allB 0))).setCell ⟨w.heap.size, 1, none⟩ (.bool true)).setCell ⟨w.heap.size, 2, none⟩ (.int .u64 (allB 1))).setCell ⟨w.heap.size, 3, none⟩ (.bool true)).setCell ⟨w.heap.size, 4, none⟩ (.int .u64 (allB 2))).setCell ⟨w.heap.size, 5, none⟩ (.bool true)).setCell ⟨w.heap.size, 6, none⟩ (.int .u64 (allB 3))).setCell ⟨w.heap.size, 7, none⟩ (.bool true)).setCell ⟨w.heap.size, 8, none⟩ (.int .u64 (allB 4))).setCell ⟨w.heap.size, 9, none⟩ (.bool true)) := ((((((((((hB.setCell (p := ⟨w.heap.size, 0, none⟩) (Nat.le_refl _) _).setCell (p := ⟨w.heap.size, 1, none⟩) (Nat.le_refl _) _).setCell (p := ⟨w.heap.size, 2, none⟩) (Nat.le_refl _) _).setCell (p := ⟨w.heap.size, 3, none⟩) (Nat.le_refl _) _).setCell (p := ⟨w.heap.size, 4, none⟩) (Nat.le_refl _) _).setCell (p := ⟨w.heap.size, 5, none⟩) (Nat.le_refl _) _).setCell (p := ⟨w.heap.size, 6, none⟩) (Nat.le_refl _) _).setCell (p := ⟨w.heap.size, 7, none⟩) (Nat.le_refl _) _).setCell (p := ⟨w.heap.size, 8, none⟩) (Nat.le_refl _) _).setCell (p := ⟨w.heap.size, 9, none⟩) (Nat.le_refl _) _)
  have hr9 : SpB ((((((((((w2.setCell ⟨w.heap.size, 0, none⟩ (.int .u64 (allB 0))).setCell ⟨w.heap.size, 1, none⟩ (.bool true)).setCell ⟨w.heap.size, 2, none⟩ (.int .u64 (allB 1))).setCell ⟨w.heap.size, 3, none⟩ (.bool true)).setCell ⟨w.heap.size, 4, none⟩ (.int .u64 (allB 2))).setCell ⟨w.heap.size, 5, none⟩ (.bool true)).setCell ⟨w.heap.size, 6, none⟩ (.int .u64 (allB 3))).setCell ⟨w.heap.size, 7, none⟩ (.bool true)).setCell ⟨w.heap.size, 8, none⟩ (.int .u64 (allB 4))).setCell ⟨w.heap.size, 9, none⟩ (.bool true)) w.heap.size ⟨⟨allB 0, true⟩, ⟨allB 1, true⟩, ⟨allB 2, true⟩, ⟨allB 3, true⟩, ⟨allB 4, true⟩⟩ := (SpB.put4 (SpB.put3 (SpB.put2 (SpB.put1 (SpB.put0 hr (allB 0) (true)) (allB 1) (true)) (allB 2) (true)) (allB 3) (true)) (allB 4) (true))
  clear c0 c1 c2 c3 c4 c5 c6 c7 c8 c9 d0 d1 d2 d3 d4 d5 d6 d7 d8 d9 z0 z1 z2 z3 z4 z5 z6 z7 z8 z9 hr hB
  generalize ((((((((((w2.setCell ⟨w.heap.size, 0, none⟩ (.int .u64 (allB 0))).setCell ⟨w.heap.size, 1, none⟩ (.bool true)).setCell ⟨w.heap.size, 2, none⟩ (.int .u64 (allB 1))).setCell ⟨w.heap.size, 3, none⟩ (.bool true)).setCell ⟨w.heap.size, 4, none⟩ (.int .u64 (allB 2))).setCell ⟨w.heap.size, 5, none⟩ (.bool true)).setCell ⟨w.heap.size, 6, none⟩ (.int .u64 (allB 3))).setCell ⟨w.heap.size, 7, none⟩ (.bool true)).setCell ⟨w.heap.size, 8, none⟩ (.int .u64 (allB 4))).setCell ⟨w.heap.size, 9, none⟩ (.bool true)) = w9 at *
  obtain ⟨c0, c1, c2, c3, c4, c5, c6, c7, c8, c9⟩ := hr9.spIn
  refine bodyPost_ret (v := .agg #[.int .u64 (allB 0), .bool (true), .int .u64 (allB 1), .bool (true), .int .u64 (allB 2), .bool (true), .int .u64 (allB 3), .bool (true), .int .u64 (allB 4), .bool (true)]) (by simp [results, Tryz.results23, go_sem, c0, c1, c2, c3, c4, c5, c6, c7, c8, c9]) rfl ⟨rfl, hB9⟩

theorem known2_q (k : Int) (w : World) (hk : k = 2 ∨ k = 4) : Calls Tryz.prog 57 #[.int .i64 k] w fun e w' => e = .returned (.bool true) ∧ w = w' := by
  obtain rfl | rfl := hk
  all_goals
    go_enter Tryz.func57, Tryz.ntmps57
    go_wp2
    go_ret
    exact ⟨rfl, rfl⟩

set_option maxRecDepth 100000 in
set_option maxHeartbeats 2000000 in
theorem with2 (x : Sp) (b : Int) (s : Bool) (w : World) :
    Calls Tryz.prog 24 #[.agg #[.int .u64 x.m.b, .bool x.m.s, .int .u64 x.h.b, .bool x.h.s, .int .u64 x.d.b, .bool x.d.s, .int .u64 x.n.b, .bool x.n.s, .int .u64 x.w.b, .bool x.w.s], .int .i64 2, .agg #[.int .u64 b, .bool s]] w fun e w' => e = .returned (.tuple #[.agg #[.int .u64 (x.m.b), .bool (x.m.s), .int .u64 (x.h.b), .bool (x.h.s), .int .u64 (b), .bool (s), .int .u64 (x.n.b), .bool (x.n.s), .int .u64 (x.w.b), .bool (x.w.s)], .int .i64 0]) ∧ Below w.heap.size w w' := by
  go_enter Tryz.func24, Tryz.ntmps24
  go_wp2_with fail
  refine (known2_q 2 _ (by omega)).mono ?_
  rintro e w1 ⟨rfl, rfl⟩
  have ix := sfi2
  go_wp2
  generalize hW : ((w.alloc (.cells #[.int .u64 x.m.b, .bool x.m.s, .int .u64 x.h.b, .bool x.h.s, .int .u64 x.d.b, .bool x.d.s, .int .u64 x.n.b, .bool x.n.s, .int .u64 x.w.b, .bool x.w.s] 26)).alloc (.cells #[.int .u64 b, .bool s] 24)).alloc (.cells #[.int .u64 0, .bool false, .int .u64 0, .bool false, .int .u64 0, .bool false, .int .u64 0, .bool false, .int .u64 0, .bool false] 26) = W3
  have hX : SpB W3 w.heap.size x := hW ▸ blk_alloc (blk_alloc (blk_new _ _) _) _
  have hF : W3.heap[w.heap.size + 1]? = some (.cells #[.int .u64 b, .bool s] 24 (0, 0)) := hW ▸ blk_alloc (blk_new2' _ _ _ (by simp)) _
  have hR : SpB W3 (w.heap.size + 1 + 1) sp0 := hW ▸ blk_new2' _ _ _ (by simp)
  have hB : Below w.heap.size w W3 := hW ▸ (((Below.refl _ _).alloc (Nat.le_refl _) _).alloc (by simp) _).alloc (by simp; omega) _
  have q0 : W3.drew.cell? ⟨w.heap.size + 1, 0, none⟩ = some (.int .u64 b) := blk_cell hF 0
  have q1 : W3.drew.cell? ⟨w.heap.size + 1, 1, none⟩ = some (.bool s) := blk_cell hF 1
  have hl1 : w.heap.size + 1 < W3.drew.heap.size := blk_lt hF
  clear hW
  refine start_ (n := 7) (S := fun w' => w'.cell? ⟨w.heap.size + 1, 0, none⟩ = some (.int .u64 b) ∧ w'.cell? ⟨w.heap.size + 1, 1, none⟩ = some (.bool s)) (ds := [6]) #[false, false, false, false, false, false, false] (by kernel_rfl) rfl rfl ⟨q0, q1⟩ (fun hHeld => ?_)
  refine pure_ (i := 1) (N := some 13) (v := ?_) (a' := ?_) #[false, true, false, false, false, false, false] rfl rfl (by kernel_rfl) (fun _ _ _ h => h) (Or.inl ⟨by rfl, ?_⟩) ?_ ?_
  rotate_left
  · intro w'
    go_simp
    with_reducible rfl
  rotate_left
  · simp only [Act.put, List.setIfInBounds_toArray, List.set_cons_zero, List.set_cons_succ, i64_w, i32_w]
    rfl
  refine take_ (i := 4) (N := some 16) (v := ?_) (a' := ?_) #[false, true, false, false, true, false, false] rfl rfl (by kernel_rfl) (fun _ _ _ h => h) (Or.inl ⟨by rfl, ?_⟩) hHeld ?_ ?_
  rotate_left
  · rintro w' ⟨s0, s1⟩
    go_simp
    with_reducible rfl
  rotate_left
  · simp only [Act.put, List.setIfInBounds_toArray, List.set_cons_zero, List.set_cons_succ, i64_w, i32_w]
    rfl
  refine one_ (i := 0) (N := some 12) #[true, true, false, false, true, false, false] rfl rfl (by kernel_rfl) (by decide) (fun K hK => ?_)
  refine goes_ Tryz.func55 (by kernel_rfl) rfl #[.pointer (some ⟨w.heap.size, 0, none⟩)] (by rfl) rfl rfl (by simp only [List.map_toArray, List.map_cons, List.map_nil]; rfl) ?_
  with_reducible refine (fields_any _ _).mono ?_
  rintro e w5 ⟨rfl, hcb, hsz, hb⟩
  refine ⟨_, rfl, ?_⟩
  have hx5 := blk_below (w := W3.drew) hX hb
  have hr5 := blk_below (w := W3.drew) hR hb
  have hB5 := hB.drew.trans (hb.mono hB.size)
  have q0' := (hb.cell (p := ⟨w.heap.size + 1, 0, none⟩) hl1).trans q0
  have q1' := (hb.cell (p := ⟨w.heap.size + 1, 1, none⟩) hl1).trans q1
  have x0 := blk_cell hx5 4
  have x1 := blk_cell hx5 5
  have z0 := blk_frozen hx5 4
  have z1 := blk_frozen hx5 5
  simp only [List.getElem?_toArray, List.getElem?_cons_succ, List.getElem?_cons_zero] at x0 x1
  clear hb hsz
  refine hK.out _ _ ⟨q0', q1'⟩ (fun hHeld => ?_)
  clear hK K
  refine norm_ (a' := ?_) ?_ ?_
  rotate_left
  · show Act.put _ (some 12) _ = _
    simp only [Act.put, List.setIfInBounds_toArray, List.set_cons_zero, List.set_cons_succ, i64_w, i32_w]
    rfl
  refine take_ (i := 2) (N := some 14) (v := ?_) (a' := ?_) #[true, true, true, false, true, false, false] rfl rfl (by kernel_rfl) (fun _ _ _ h => h) (Or.inl ⟨by rfl, ?_⟩) hHeld ?_ ?_
  rotate_left
  · rintro w' ⟨s0, s1⟩
    go_simp
    with_reducible rfl
  rotate_left
  · simp only [Act.put, List.setIfInBounds_toArray, List.set_cons_zero, List.set_cons_succ, i64_w, i32_w]
    rfl
  refine one_ (i := 3) (N := some 15) #[true, true, true, true, true, false, false] rfl rfl (by kernel_rfl) (by decide) (fun K hK => ?_)
  refine call_ (91) #[.pointer (some ⟨W3.drew.heap.size, 0, none⟩)] (by rfl) rfl ?_ ?_
  · have he := eg_sf3
    go_simp
  with_reducible refine (sfl2 ⟨W3.drew.heap.size, 0, none⟩ w.heap.size _ hcb).mono ?_
  rintro e w6 ⟨rfl, rfl⟩
  refine ⟨_, rfl, ?_⟩
  refine hK.out _ _ ⟨q0', q1'⟩ (fun hHeld => ?_)
  clear hK K
  refine norm_ (a' := ?_) ?_ ?_
  rotate_left
  · show Act.put _ (some 15) _ = _
    simp only [Act.put, List.setIfInBounds_toArray, List.set_cons_zero, List.set_cons_succ, i64_w, i32_w]
    rfl
  refine pure_ (i := 5) (N := some 17) (v := ?_) (a' := ?_) #[true, true, true, true, true, true, false] rfl rfl (by kernel_rfl) (fun _ _ _ h => h) (Or.inl ⟨by rfl, ?_⟩) ?_ ?_
  rotate_left
  · intro w'
    go_simp
    with_reducible rfl
  rotate_left
  · simp only [Act.put, List.setIfInBounds_toArray, List.set_cons_zero, List.set_cons_succ, i64_w, i32_w]
    rfl
  refine last_ (i := 6) (N := none) #[true, true, true, true, true, true, true] rfl rfl (by kernel_rfl) (by decide) (fun K hK => ?_)
  refine skip_ (w1 := ?_) (by rfl) rfl ?_ ?_
  rotate_left
  · go_simp
    rfl
  refine hK.out _ _ ?_
  clear hK K
  refine done_ (by kernel_rfl) ?_

  have hK : KX w.heap.size w5 ((w5.setCell ⟨w.heap.size, 4, none⟩ (.int .u64 b)).setCell ⟨w.heap.size, 5, none⟩ (.bool s)) := (KX.set w5 4 _).trans (KX.set _ 5 _)
  have hx7 := SpB.put2 (x := x) hx5 b s
  have hr7 := hK.blk hr5 (by omega)
  have hB7 := hB5.trans (hK.below (Nat.le_refl _) hB5.size)
  generalize (w5.setCell ⟨w.heap.size, 4, none⟩ (.int .u64 b)).setCell ⟨w.heap.size, 5, none⟩ (.bool s) = w7 at *
  clear hx5 hr5 hB5 x0 x1 z0 z1 q0 q1 q0' q1' hcb hHeld hK ix
  obtain ⟨c0, c1, c2, c3, c4, c5, c6, c7, c8, c9⟩ := SpB.spIn (x := { x with d := ⟨b, s⟩ }) hx7
  obtain ⟨d0, d1, d2, d3, d4, d5, d6, d7, d8, d9⟩ := SpB.spIn hr7
  obtain ⟨z0, z1, z2, z3, z4, z5, z6, z7, z8, z9⟩ := SpB.fz hr7
  go_wp2
  have hB9 : Below w.heap.size w ((((((((((w7.setCell ⟨(w.heap.size + 1 + 1), 0, none⟩ (.int .u64 (x.m.b))).setCell ⟨(w.heap.size + 1 + 1), 1, none⟩ (.bool x.m.s)).setCell ⟨(w.heap.size + 1 + 1), 2, none⟩ (.int .u64 (x.h.b))).setCell ⟨(w.heap.size + 1 + 1), 3, none⟩ (.bool x.h.s)).setCell ⟨(w.heap.size + 1 + 1), 4, none⟩ (.int .u64 (b))).setCell ⟨(w.heap.size + 1 + 1), 5, none⟩ (.bool s)).setCell ⟨(w.heap.size + 1 + 1), 6, none⟩ (.int .u64 (x.n.b))).setCell ⟨(w.heap.size + 1 + 1), 7, none⟩ (.bool x.n.s)).setCell ⟨(w.heap.size + 1 + 1), 8, none⟩ (.int .u64 (x.w.b))).setCell ⟨(w.heap.size + 1 + 1), 9, none⟩ (.bool x.w.s)) := ((((((((((hB7.setCell (p := ⟨(w.heap.size + 1 + 1), 0, none⟩) (by dsimp only; omega) _).setCell (p := ⟨(w.heap.size + 1 + 1), 1, none⟩) (by dsimp only; omega) _).setCell (p := ⟨(w.heap.size + 1 + 1), 2, none⟩) (by dsimp only; omega) _).setCell (p := ⟨(w.heap.size + 1 + 1), 3, none⟩) (by dsimp only; omega) _).setCell (p := ⟨(w.heap.size + 1 + 1), 4, none⟩) (by dsimp only; omega) _).setCell (p := ⟨(w.heap.size + 1 + 1), 5, none⟩) (by dsimp only; omega) _).setCell (p := ⟨(w.heap.size + 1 + 1), 6, none⟩) (by dsimp only; omega) _).setCell (p := ⟨(w.heap.size + 1 + 1), 7, none⟩) (by dsimp only; omega) _).setCell (p := ⟨(w.heap.size + 1 + 1), 8, none⟩) (by dsimp only; omega) _).setCell (p := ⟨(w.heap.size + 1 + 1), 9, none⟩) (by dsimp only; omega) _)
  have hr9 : SpB ((((((((((w7.setCell ⟨(w.heap.size + 1 + 1), 0, none⟩ (.int .u64 (x.m.b))).setCell ⟨(w.heap.size + 1 + 1), 1, none⟩ (.bool x.m.s)).setCell ⟨(w.heap.size + 1 + 1), 2, none⟩ (.int .u64 (x.h.b))).setCell ⟨(w.heap.size + 1 + 1), 3, none⟩ (.bool x.h.s)).setCell ⟨(w.heap.size + 1 + 1), 4, none⟩ (.int .u64 (b))).setCell ⟨(w.heap.size + 1 + 1), 5, none⟩ (.bool s)).setCell ⟨(w.heap.size + 1 + 1), 6, none⟩ (.int .u64 (x.n.b))).setCell ⟨(w.heap.size + 1 + 1), 7, none⟩ (.bool x.n.s)).setCell ⟨(w.heap.size + 1 + 1), 8, none⟩ (.int .u64 (x.w.b))).setCell ⟨(w.heap.size + 1 + 1), 9, none⟩ (.bool x.w.s)) (w.heap.size + 1 + 1) { x with d := ⟨b, s⟩ } := (SpB.put4 (SpB.put3 (SpB.put2 (SpB.put1 (SpB.put0 hr7 (x.m.b) (x.m.s)) (x.h.b) (x.h.s)) (b) (s)) (x.n.b) (x.n.s)) (x.w.b) (x.w.s))
  clear c0 c1 c2 c3 c4 c5 c6 c7 c8 c9 d0 d1 d2 d3 d4 d5 d6 d7 d8 d9 z0 z1 z2 z3 z4 z5 z6 z7 z8 z9 hr7 hB7
  generalize ((((((((((w7.setCell ⟨(w.heap.size + 1 + 1), 0, none⟩ (.int .u64 (x.m.b))).setCell ⟨(w.heap.size + 1 + 1), 1, none⟩ (.bool x.m.s)).setCell ⟨(w.heap.size + 1 + 1), 2, none⟩ (.int .u64 (x.h.b))).setCell ⟨(w.heap.size + 1 + 1), 3, none⟩ (.bool x.h.s)).setCell ⟨(w.heap.size + 1 + 1), 4, none⟩ (.int .u64 (b))).setCell ⟨(w.heap.size + 1 + 1), 5, none⟩ (.bool s)).setCell ⟨(w.heap.size + 1 + 1), 6, none⟩ (.int .u64 (x.n.b))).setCell ⟨(w.heap.size + 1 + 1), 7, none⟩ (.bool x.n.s)).setCell ⟨(w.heap.size + 1 + 1), 8, none⟩ (.int .u64 (x.w.b))).setCell ⟨(w.heap.size + 1 + 1), 9, none⟩ (.bool x.w.s)) = w9 at *
  obtain ⟨c0, c1, c2, c3, c4, c5, c6, c7, c8, c9⟩ := SpB.spIn (x := { x with d := ⟨b, s⟩ }) hr9
  refine bodyPost_ret (v := .tuple #[.agg #[.int .u64 (x.m.b), .bool (x.m.s), .int .u64 (x.h.b), .bool (x.h.s), .int .u64 (b), .bool (s), .int .u64 (x.n.b), .bool (x.n.s), .int .u64 (x.w.b), .bool (x.w.s)], .int .i64 0]) (by simp [results, Tryz.results24, go_sem, c0, c1, c2, c3, c4, c5, c6, c7, c8, c9]) rfl ⟨rfl, hB9⟩

set_option maxRecDepth 100000 in
set_option maxHeartbeats 2000000 in
theorem with4 (x : Sp) (b : Int) (s : Bool) (w : World) :
    Calls Tryz.prog 24 #[.agg #[.int .u64 x.m.b, .bool x.m.s, .int .u64 x.h.b, .bool x.h.s, .int .u64 x.d.b, .bool x.d.s, .int .u64 x.n.b, .bool x.n.s, .int .u64 x.w.b, .bool x.w.s], .int .i64 4, .agg #[.int .u64 b, .bool s]] w fun e w' => e = .returned (.tuple #[.agg #[.int .u64 (x.m.b), .bool (x.m.s), .int .u64 (x.h.b), .bool (x.h.s), .int .u64 (x.d.b), .bool (x.d.s), .int .u64 (x.n.b), .bool (x.n.s), .int .u64 (b), .bool (s)], .int .i64 0]) ∧ Below w.heap.size w w' := by
  go_enter Tryz.func24, Tryz.ntmps24
  go_wp2_with fail
  refine (known2_q 4 _ (by omega)).mono ?_
  rintro e w1 ⟨rfl, rfl⟩
  have ix := sfi4
  go_wp2
  generalize hW : ((w.alloc (.cells #[.int .u64 x.m.b, .bool x.m.s, .int .u64 x.h.b, .bool x.h.s, .int .u64 x.d.b, .bool x.d.s, .int .u64 x.n.b, .bool x.n.s, .int .u64 x.w.b, .bool x.w.s] 26)).alloc (.cells #[.int .u64 b, .bool s] 24)).alloc (.cells #[.int .u64 0, .bool false, .int .u64 0, .bool false, .int .u64 0, .bool false, .int .u64 0, .bool false, .int .u64 0, .bool false] 26) = W3
  have hX : SpB W3 w.heap.size x := hW ▸ blk_alloc (blk_alloc (blk_new _ _) _) _
  have hF : W3.heap[w.heap.size + 1]? = some (.cells #[.int .u64 b, .bool s] 24 (0, 0)) := hW ▸ blk_alloc (blk_new2' _ _ _ (by simp)) _
  have hR : SpB W3 (w.heap.size + 1 + 1) sp0 := hW ▸ blk_new2' _ _ _ (by simp)
  have hB : Below w.heap.size w W3 := hW ▸ (((Below.refl _ _).alloc (Nat.le_refl _) _).alloc (by simp) _).alloc (by simp; omega) _
  have q0 : W3.drew.cell? ⟨w.heap.size + 1, 0, none⟩ = some (.int .u64 b) := blk_cell hF 0
  have q1 : W3.drew.cell? ⟨w.heap.size + 1, 1, none⟩ = some (.bool s) := blk_cell hF 1
  have hl1 : w.heap.size + 1 < W3.drew.heap.size := blk_lt hF
  clear hW
  refine start_ (n := 7) (S := fun w' => w'.cell? ⟨w.heap.size + 1, 0, none⟩ = some (.int .u64 b) ∧ w'.cell? ⟨w.heap.size + 1, 1, none⟩ = some (.bool s)) (ds := [6]) #[false, false, false, false, false, false, false] (by kernel_rfl) rfl rfl ⟨q0, q1⟩ (fun hHeld => ?_)
  refine pure_ (i := 1) (N := some 13) (v := ?_) (a' := ?_) #[false, true, false, false, false, false, false] rfl rfl (by kernel_rfl) (fun _ _ _ h => h) (Or.inl ⟨by rfl, ?_⟩) ?_ ?_
  rotate_left
  · intro w'
    go_simp
    with_reducible rfl
  rotate_left
  · simp only [Act.put, List.setIfInBounds_toArray, List.set_cons_zero, List.set_cons_succ, i64_w, i32_w]
    rfl
  refine take_ (i := 4) (N := some 16) (v := ?_) (a' := ?_) #[false, true, false, false, true, false, false] rfl rfl (by kernel_rfl) (fun _ _ _ h => h) (Or.inl ⟨by rfl, ?_⟩) hHeld ?_ ?_
  rotate_left
  · rintro w' ⟨s0, s1⟩
    go_simp
    with_reducible rfl
  rotate_left
  · simp only [Act.put, List.setIfInBounds_toArray, List.set_cons_zero, List.set_cons_succ, i64_w, i32_w]
    rfl
  refine one_ (i := 0) (N := some 12) #[true, true, false, false, true, false, false] rfl rfl (by kernel_rfl) (by decide) (fun K hK => ?_)
  refine goes_ Tryz.func55 (by kernel_rfl) rfl #[.pointer (some ⟨w.heap.size, 0, none⟩)] (by rfl) rfl rfl (by simp only [List.map_toArray, List.map_cons, List.map_nil]; rfl) ?_
  with_reducible refine (fields_any _ _).mono ?_
  rintro e w5 ⟨rfl, hcb, hsz, hb⟩
  refine ⟨_, rfl, ?_⟩
  have hx5 := blk_below (w := W3.drew) hX hb
  have hr5 := blk_below (w := W3.drew) hR hb
  have hB5 := hB.drew.trans (hb.mono hB.size)
  have q0' := (hb.cell (p := ⟨w.heap.size + 1, 0, none⟩) hl1).trans q0
  have q1' := (hb.cell (p := ⟨w.heap.size + 1, 1, none⟩) hl1).trans q1
  have x0 := blk_cell hx5 8
  have x1 := blk_cell hx5 9
  have z0 := blk_frozen hx5 8
  have z1 := blk_frozen hx5 9
  simp only [List.getElem?_toArray, List.getElem?_cons_succ, List.getElem?_cons_zero] at x0 x1
  clear hb hsz
  refine hK.out _ _ ⟨q0', q1'⟩ (fun hHeld => ?_)
  clear hK K
  refine norm_ (a' := ?_) ?_ ?_
  rotate_left
  · show Act.put _ (some 12) _ = _
    simp only [Act.put, List.setIfInBounds_toArray, List.set_cons_zero, List.set_cons_succ, i64_w, i32_w]
    rfl
  refine take_ (i := 2) (N := some 14) (v := ?_) (a' := ?_) #[true, true, true, false, true, false, false] rfl rfl (by kernel_rfl) (fun _ _ _ h => h) (Or.inl ⟨by rfl, ?_⟩) hHeld ?_ ?_
  rotate_left
  · rintro w' ⟨s0, s1⟩
    go_simp
    with_reducible rfl
  rotate_left
  · simp only [Act.put, List.setIfInBounds_toArray, List.set_cons_zero, List.set_cons_succ, i64_w, i32_w]
    rfl
  refine one_ (i := 3) (N := some 15) #[true, true, true, true, true, false, false] rfl rfl (by kernel_rfl) (by decide) (fun K hK => ?_)
  refine call_ (93) #[.pointer (some ⟨W3.drew.heap.size, 0, none⟩)] (by rfl) rfl ?_ ?_
  · have he := eg_sf5
    go_simp
  with_reducible refine (sfl4 ⟨W3.drew.heap.size, 0, none⟩ w.heap.size _ hcb).mono ?_
  rintro e w6 ⟨rfl, rfl⟩
  refine ⟨_, rfl, ?_⟩
  refine hK.out _ _ ⟨q0', q1'⟩ (fun hHeld => ?_)
  clear hK K
  refine norm_ (a' := ?_) ?_ ?_
  rotate_left
  · show Act.put _ (some 15) _ = _
    simp only [Act.put, List.setIfInBounds_toArray, List.set_cons_zero, List.set_cons_succ, i64_w, i32_w]
    rfl
  refine pure_ (i := 5) (N := some 17) (v := ?_) (a' := ?_) #[true, true, true, true, true, true, false] rfl rfl (by kernel_rfl) (fun _ _ _ h => h) (Or.inl ⟨by rfl, ?_⟩) ?_ ?_
  rotate_left
  · intro w'
    go_simp
    with_reducible rfl
  rotate_left
  · simp only [Act.put, List.setIfInBounds_toArray, List.set_cons_zero, List.set_cons_succ, i64_w, i32_w]
    rfl
  refine last_ (i := 6) (N := none) #[true, true, true, true, true, true, true] rfl rfl (by kernel_rfl) (by decide) (fun K hK => ?_)
  refine skip_ (w1 := ?_) (by rfl) rfl ?_ ?_
  rotate_left
  · go_simp
    rfl
  refine hK.out _ _ ?_
  clear hK K
  refine done_ (by kernel_rfl) ?_

  have hK : KX w.heap.size w5 ((w5.setCell ⟨w.heap.size, 8, none⟩ (.int .u64 b)).setCell ⟨w.heap.size, 9, none⟩ (.bool s)) := (KX.set w5 8 _).trans (KX.set _ 9 _)
  have hx7 := SpB.put4 (x := x) hx5 b s
  have hr7 := hK.blk hr5 (by omega)
  have hB7 := hB5.trans (hK.below (Nat.le_refl _) hB5.size)
  generalize (w5.setCell ⟨w.heap.size, 8, none⟩ (.int .u64 b)).setCell ⟨w.heap.size, 9, none⟩ (.bool s) = w7 at *
  clear hx5 hr5 hB5 x0 x1 z0 z1 q0 q1 q0' q1' hcb hHeld hK ix
  obtain ⟨c0, c1, c2, c3, c4, c5, c6, c7, c8, c9⟩ := SpB.spIn (x := { x with w := ⟨b, s⟩ }) hx7
  obtain ⟨d0, d1, d2, d3, d4, d5, d6, d7, d8, d9⟩ := SpB.spIn hr7
  obtain ⟨z0, z1, z2, z3, z4, z5, z6, z7, z8, z9⟩ := SpB.fz hr7
  go_wp2
  have hB9 : Below w.heap.size w ((((((((((w7.setCell ⟨(w.heap.size + 1 + 1), 0, none⟩ (.int .u64 (x.m.b))).setCell ⟨(w.heap.size + 1 + 1), 1, none⟩ (.bool x.m.s)).setCell ⟨(w.heap.size + 1 + 1), 2, none⟩ (.int .u64 (x.h.b))).setCell ⟨(w.heap.size + 1 + 1), 3, none⟩ (.bool x.h.s)).setCell ⟨(w.heap.size + 1 + 1), 4, none⟩ (.int .u64 (x.d.b))).setCell ⟨(w.heap.size + 1 + 1), 5, none⟩ (.bool x.d.s)).setCell ⟨(w.heap.size + 1 + 1), 6, none⟩ (.int .u64 (x.n.b))).setCell ⟨(w.heap.size + 1 + 1), 7, none⟩ (.bool x.n.s)).setCell ⟨(w.heap.size + 1 + 1), 8, none⟩ (.int .u64 (b))).setCell ⟨(w.heap.size + 1 + 1), 9, none⟩ (.bool s)) := ((((((((((hB7.setCell (p := ⟨(w.heap.size + 1 + 1), 0, none⟩) (by dsimp only; omega) _).setCell (p := ⟨(w.heap.size + 1 + 1), 1, none⟩) (by dsimp only; omega) _).setCell (p := ⟨(w.heap.size + 1 + 1), 2, none⟩) (by dsimp only; omega) _).setCell (p := ⟨(w.heap.size + 1 + 1), 3, none⟩) (by dsimp only; omega) _).setCell (p := ⟨(w.heap.size + 1 + 1), 4, none⟩) (by dsimp only; omega) _).setCell (p := ⟨(w.heap.size + 1 + 1), 5, none⟩) (by dsimp only; omega) _).setCell (p := ⟨(w.heap.size + 1 + 1), 6, none⟩) (by dsimp only; omega) _).setCell (p := ⟨(w.heap.size + 1 + 1), 7, none⟩) (by dsimp only; omega) _).setCell (p := ⟨(w.heap.size + 1 + 1), 8, none⟩) (by dsimp only; omega) _).setCell (p := ⟨(w.heap.size + 1 + 1), 9, none⟩) (by dsimp only; omega) _)
  have hr9 : SpB ((((((((((w7.setCell ⟨(w.heap.size + 1 + 1), 0, none⟩ (.int .u64 (x.m.b))).setCell ⟨(w.heap.size + 1 + 1), 1, none⟩ (.bool x.m.s)).setCell ⟨(w.heap.size + 1 + 1), 2, none⟩ (.int .u64 (x.h.b))).setCell ⟨(w.heap.size + 1 + 1), 3, none⟩ (.bool x.h.s)).setCell ⟨(w.heap.size + 1 + 1), 4, none⟩ (.int .u64 (x.d.b))).setCell ⟨(w.heap.size + 1 + 1), 5, none⟩ (.bool x.d.s)).setCell ⟨(w.heap.size + 1 + 1), 6, none⟩ (.int .u64 (x.n.b))).setCell ⟨(w.heap.size + 1 + 1), 7, none⟩ (.bool x.n.s)).setCell ⟨(w.heap.size + 1 + 1), 8, none⟩ (.int .u64 (b))).setCell ⟨(w.heap.size + 1 + 1), 9, none⟩ (.bool s)) (w.heap.size + 1 + 1) { x with w := ⟨b, s⟩ } := (SpB.put4 (SpB.put3 (SpB.put2 (SpB.put1 (SpB.put0 hr7 (x.m.b) (x.m.s)) (x.h.b) (x.h.s)) (x.d.b) (x.d.s)) (x.n.b) (x.n.s)) (b) (s))
  clear c0 c1 c2 c3 c4 c5 c6 c7 c8 c9 d0 d1 d2 d3 d4 d5 d6 d7 d8 d9 z0 z1 z2 z3 z4 z5 z6 z7 z8 z9 hr7 hB7
  generalize ((((((((((w7.setCell ⟨(w.heap.size + 1 + 1), 0, none⟩ (.int .u64 (x.m.b))).setCell ⟨(w.heap.size + 1 + 1), 1, none⟩ (.bool x.m.s)).setCell ⟨(w.heap.size + 1 + 1), 2, none⟩ (.int .u64 (x.h.b))).setCell ⟨(w.heap.size + 1 + 1), 3, none⟩ (.bool x.h.s)).setCell ⟨(w.heap.size + 1 + 1), 4, none⟩ (.int .u64 (x.d.b))).setCell ⟨(w.heap.size + 1 + 1), 5, none⟩ (.bool x.d.s)).setCell ⟨(w.heap.size + 1 + 1), 6, none⟩ (.int .u64 (x.n.b))).setCell ⟨(w.heap.size + 1 + 1), 7, none⟩ (.bool x.n.s)).setCell ⟨(w.heap.size + 1 + 1), 8, none⟩ (.int .u64 (b))).setCell ⟨(w.heap.size + 1 + 1), 9, none⟩ (.bool s)) = w9 at *
  obtain ⟨c0, c1, c2, c3, c4, c5, c6, c7, c8, c9⟩ := SpB.spIn (x := { x with w := ⟨b, s⟩ }) hr9
  refine bodyPost_ret (v := .tuple #[.agg #[.int .u64 (x.m.b), .bool (x.m.s), .int .u64 (x.h.b), .bool (x.h.s), .int .u64 (x.d.b), .bool (x.d.s), .int .u64 (x.n.b), .bool (x.n.s), .int .u64 (b), .bool (s)], .int .i64 0]) (by simp [results, Tryz.results24, go_sem, c0, c1, c2, c3, c4, c5, c6, c7, c8, c9]) rfl ⟨rfl, hB9⟩

end Go.Proofs.YtkdejfedigiohaaGreatDoor

/- math/bits.TrailingZeros64 in this program. -/
namespace Go.Proofs.YtkdejfedigiohaaGreatDoor
open Go.RowKit Go.Proofs.YtkdejfedigiohaaGreatDoorW.PrintWords Go.Proofs.YtkdejfedigiohaaGreatDoorW.PrintLast Go.Proofs.YtkdejfedigiohaaGreatDoorW.PrintMore
set_option linter.unusedVariables false
set_option linter.unusedSimpArgs false

open Go.Shelf

set_option maxRecDepth 100000 in
set_option maxHeartbeats 2000000 in
theorem tz_core (x i k : Nat) (w : World) (hne : ((x : Int) == 0) = false) (key : IntKind.u64.wrap (bits BinOp.and IntKind.u64 (x : Int) (IntKind.u64.wrap (-(x : Int))) * 285870213051353865) / 288230376151711744 = ((i : Nat) : Int)) (hi : i < 64) (hk : k < 64)
    (hcell : w.cell? ⟨1, i, none⟩ = some (.int .u8 (k : Int))) :
    Calls Tryz.prog 120 #[.int .u64 x] w fun e w' => e = .returned (.int .i64 k) ∧ w = w' := by
  go_enter Tryz.func120, Tryz.ntmps120
  go_wp2_with (simp only [key])
  go_ret
  exact ⟨rfl, rfl⟩

theorem tz_any (x : Nat) (hx : x < 18446744073709551616) (h0 : x ≠ 0) (w : World) (hT : TabAt 1 Lib.deBruijn64tab w) :
    Calls Tryz.prog 120 #[.int .u64 x] w fun e w' => e = .returned (.int .i64 (Lib.ctz 64 x)) ∧ w = w' := by
  obtain ⟨hlow, hk⟩ := Lib.lowest_bit 64 x h0 hx
  obtain ⟨hi, htab⟩ := Lib.deBruijn64_at _ hk
  have hcell := hT _ hi
  rw [htab] at hcell
  exact tz_core x _ _ w (by simp; omega) (tz64_key x _ hx h0 hlow) hi hk hcell

end Go.Proofs.YtkdejfedigiohaaGreatDoor

/- field.First. -/
namespace Go.Proofs.YtkdejfedigiohaaGreatDoor
open Go.RowKit Go.Proofs.YtkdejfedigiohaaGreatDoorW.PrintWords Go.Proofs.YtkdejfedigiohaaGreatDoorW.PrintLast Go.Proofs.YtkdejfedigiohaaGreatDoorW.PrintMore
set_option linter.unusedVariables false
set_option linter.unusedSimpArgs false

open Go.Shelf

set_option maxRecDepth 100000 in
set_option maxHeartbeats 2000000 in
theorem first_out (b v : Int) (s : Bool) (w : World) (hv : 63 < v) :
    Calls Tryz.prog 95 #[.agg #[.int .u64 b, .bool s], .int .i64 v] w fun e w' => e = .returned (.tuple #[.int .i64 0, .bool false]) ∧ Below w.heap.size w w' := by
  go_enter Tryz.func95, Tryz.ntmps95
  go_wp2
  go_ret2
  exact ⟨rfl, (Below.refl _ _).alloc (Nat.le_refl _) _⟩

set_option maxRecDepth 100000 in
set_option maxHeartbeats 2000000 in
theorem first_none (B v : Nat) (s : Bool) (w : World) (hB : B < 18446744073709551616) (hv : v ≤ 63) (h0 : B / 2 ^ v = 0) :
    Calls Tryz.prog 95 #[.agg #[.int .u64 (B : Int), .bool s], .int .i64 (v : Int)] w fun e w' => e = .returned (.tuple #[.int .i64 0, .bool false]) ∧ Below w.heap.size w w' := by
  have hv' : (v : Int) ≤ 63 := by omega
  have hz : ((B : Nat) : Int) / 2 ^ v = 0 := by
    rw [show ((B : Nat) : Int) / 2 ^ v = ((B / 2 ^ v : Nat) : Int) by push_cast; rfl, h0]; rfl
  go_enter Tryz.func95, Tryz.ntmps95
  go_wp2
  go_ret2
  exact ⟨rfl, (Below.refl _ _).alloc (Nat.le_refl _) _⟩

set_option maxRecDepth 100000 in
set_option maxHeartbeats 2000000 in
theorem first_some (B v q : Nat) (s : Bool) (w : World) (hB : B < 18446744073709551616) (hv : v ≤ 63) (hq : B / 2 ^ v = q) (h0 : q ≠ 0) (hT : TabAt 1 Lib.deBruijn64tab w) (hg : 1 < w.heap.size) :
    Calls Tryz.prog 95 #[.agg #[.int .u64 (B : Int), .bool s], .int .i64 (v : Int)] w fun e w' => e = .returned (.tuple #[.int .i64 (Lib.ctz 64 (q * 2 ^ v)), .bool true]) ∧ Below w.heap.size w w' := by
  have hv' : (v : Int) ≤ 63 := by omega
  have hz : ((B : Nat) : Int) / 2 ^ v = (q : Int) := by rw [← hq]; push_cast; rfl
  have hm : q * 2 ^ v ≤ B := by rw [← hq]; exact Nat.div_mul_le_self _ _
  clear hq
  have hr0 : q * 2 ^ v ≠ 0 := Nat.mul_ne_zero h0 (Nat.ne_of_gt (Nat.two_pow_pos v))
  have hwv : IntKind.u64.wrap ((q : Int) * 2 ^ v) = ((q * 2 ^ v : Nat) : Int) := by
    rw [show ((q : Int) * 2 ^ v) = ((q * 2 ^ v : Nat) : Int) by push_cast; rfl, wrap_u64 _ (by omega) (by omega)]
  generalize q * 2 ^ v = r at *
  have hrb : ((r : Int) == 0) = false := by rw [beq_eq_false_iff_ne]; omega
  have hT2 : TabAt 1 Lib.deBruijn64tab (w.alloc (.cells #[.int .u64 (B : Int), .bool s] 24)) := fun j hj => by
    rw [World.cell?_of_block (w := w) (a := ⟨1, j, none⟩) (Below.heap_alloc _ _ _ hg)]
    exact hT j hj
  have hT2 := Lib.hid hT2
  clear hT
  go_enter Tryz.func95, Tryz.ntmps95
  go_wp2_with fail
  refine (tz_any r (by omega) hr0 _ hT2.out).mono ?_
  rintro e w1 ⟨rfl, rfl⟩
  go_wp2
  go_ret2
  exact ⟨rfl, (Below.refl _ _).alloc (Nat.le_refl _) _⟩

end Go.Proofs.YtkdejfedigiohaaGreatDoor

/- show.runs: the runs of a field, one by one: the iterator's contract. -/
namespace Go.Proofs.YtkdejfedigiohaaGreatDoor
open Go.RowKit Go.Proofs.YtkdejfedigiohaaGreatDoorW.PrintWords Go.Proofs.YtkdejfedigiohaaGreatDoorW.PrintLast Go.Proofs.YtkdejfedigiohaaGreatDoorW.PrintMore
set_option linter.unusedVariables false
set_option linter.unusedSimpArgs false

attribute [local go_sem] Oper.semAt_some
open Go.Shelf

theorem bit_shift (B v u : Nat) : (B / 2 ^ v * 2 ^ v).testBit u = (decide (v ≤ u) && B.testBit u) := by
  rw [Nat.testBit_mul_two_pow]
  by_cases h : v ≤ u
  · rw [Nat.testBit_div_two_pow]; simp [h]
  · simp [h]
theorem ctz_first (B v q : Nat) (hB : B < 18446744073709551616) (hv : v ≤ 63) (hq : B / 2 ^ v = q) (h0 : q ≠ 0) : firstN B v = some (Lib.ctz 64 (q * 2 ^ v)) := by
  subst hq
  have hx0 : B / 2 ^ v * 2 ^ v ≠ 0 := Nat.mul_ne_zero h0 (Nat.ne_of_gt (Nat.two_pow_pos v))
  have hx : B / 2 ^ v * 2 ^ v < 2 ^ 64 := Nat.lt_of_le_of_lt (Nat.div_mul_le_self _ _) hB
  obtain ⟨m, hm, hk⟩ := Lib.ctzFrom_spec 64 _ (Nat.pos_of_ne_zero hx0) hx
  have e : Lib.ctz 64 (B / 2 ^ v * 2 ^ v) = Lib.ctzFrom 64 (B / 2 ^ v * 2 ^ v) := by unfold Lib.ctz; rw [if_neg hx0]
  rw [e]
  have hbit : ∀ u, (decide (v ≤ u) && B.testBit u) = (decide (Lib.ctzFrom 64 (B / 2 ^ v * 2 ^ v) ≤ u) && (2 * m + 1).testBit (u - Lib.ctzFrom 64 (B / 2 ^ v * 2 ^ v))) := fun u => by
    rw [← bit_shift, ← Nat.testBit_two_pow_mul, ← hm]
  generalize Lib.ctzFrom 64 (B / 2 ^ v * 2 ^ v) = k at hk hbit ⊢
  have h1 := hbit k
  rw [Nat.sub_self, show (2 * m + 1).testBit 0 = true by simp [Nat.testBit_zero]] at h1
  simp at h1
  refine firstN_is h1.1 hk h1.2 (fun u h2 h3 => ?_)
  have h4 := hbit u
  rw [show decide (k ≤ u) = false by simp; omega, show decide (v ≤ u) = true by simp [h2]] at h4
  simpa using h4
theorem div_none (B v : Nat) (hB : B < 18446744073709551616) (h : B / 2 ^ v = 0) : firstN B v = none :=
  firstN_isnone fun u h1 h2 => by
    have h3 := bit_shift B v u
    rw [h, Nat.zero_mul, Nat.zero_testBit] at h3
    simpa [h1] using h3.symm

/-- What field.First answers. -/
def firstI (B v : Nat) : Int × Bool := match firstN B v with
  | some p => (((p : Nat) : Int), true)
  | none => (0, false)
theorem firstI_some {B v p : Nat} (h : firstN B v = some p) : firstI B v = (((p : Nat) : Int), true) := by unfold firstI; rw [h]
theorem firstI_none {B v : Nat} (h : firstN B v = none) : firstI B v = (0, false) := by unfold firstI; rw [h]
def TabIn (w : World) : Prop := TabAt 1 Lib.deBruijn64tab w
theorem TabIn.lt {w : World} (h : TabIn w) : 1 < w.heap.size :=
  World.block_lt_of_cell? _ _ (h 0 (by decide))
theorem TabIn.below {w w' : World} (h : TabIn w) (hb : w'.heap[1]? = w.heap[1]?) : TabIn w' := fun j hj => by
  rw [World.cell?_of_block (w := w) (a := ⟨1, j, none⟩) hb]
  exact h j hj
theorem first_any (B v : Nat) (s : Bool) (w : World) (hB : B < 18446744073709551616) (hT : TabIn w) :
    Calls Tryz.prog 95 #[.agg #[.int .u64 (B : Int), .bool s], .int .i64 (v : Int)] w fun e w' => e = .returned (.tuple #[.int .i64 (firstI B v).1, .bool (firstI B v).2]) ∧ Below w.heap.size w w' := by
  by_cases hv : v ≤ 63
  · by_cases h0 : B / 2 ^ v = 0
    · rw [firstI_none (div_none B v hB h0)]
      exact first_none B v s w hB hv h0
    · rw [firstI_some (ctz_first B v _ hB hv rfl h0)]
      exact first_some B v _ s w hB hv rfl h0 hT hT.lt
  · rw [firstI_none (firstN_isnone fun u h1 h2 => by omega)]
    exact first_out _ _ s w (by omega)

theorem hasB_nat (B v : Nat) : hasB (B : Int) (v : Int) = (decide (v < 64) && B.testBit v) := by
  unfold hasB
  rw [show decide (0 ≤ (v : Int)) = true by simp, show decide ((v : Int) < 64) = decide (v < 64) from decide_eq_decide.2 (by omega)]
  simp

theorem runs_q (B : Int) (s : Bool) (w : World) :
    Calls Tryz.prog 58 #[.agg #[.int .u64 B, .bool s]] w fun e w' => e = .returned (.func (.func 94) #[] #[.pointer (some ⟨w.heap.size, 0, none⟩)])
      ∧ w' = w.alloc (.cells #[.int .u64 B, .bool s] 24) := by
  go_enter Tryz.func58, Tryz.ntmps58
  go_wp2
  go_ret
  exact ⟨rfl, rfl⟩

/-- What a round keeps: the field's box, and the table. -/
def KpR (bf : Nat) (W W' : World) : Prop := W'.heap[bf]? = W.heap[bf]? ∧ W'.heap[1]? = W.heap[1]?
theorem kpR_t {bf : Nat} {A B C : World} (h : KpR bf A B) (k : KpR bf B C) : KpR bf A C := ⟨k.1.trans h.1, k.2.trans h.2⟩
abbrev Rn := { r : Nat × Nat // r.1 ≤ r.2 ∧ r.2 < 64 }
def encR (r : Rn) : Array Value := #[.int .i64 (r.1.1 : Int), .int .i64 (r.1.2 : Int)]
def unR (l : List Rn) : List (Nat × Nat) := l.map (·.1)
theorem unR_snoc (l : List Rn) (x : Rn) : unR (l ++ [x]) = unR l ++ [x.1] := by simp [unR]

def meaR (v ok : Value) : Nat := match ok with
  | .bool true => 65 - (intOf v).toNat
  | _ => 0

set_option maxRecDepth 100000 in
set_option maxHeartbeats 2000000 in
theorem runs1_in (n : Nat) (hn : 1 ≤ n) (l bf : Nat) (B : Nat) (s : Bool) (hB : B < 18446744073709551616) (J Jx : List Rn → World → Prop)
    (W : World) (hJa : AbidesFrom W.heap.size J)
    (hY : ∀ pre x W, J pre W → pre.length < (runsN B).length → YieldAt Fence.wide (n - 1) Tryz.prog l (encR x) W fun e W' =>
      (e = .returned (.bool true) ∧ J (pre ++ [x]) W' ∧ KpR bf W W') ∨ (e = .returned (.bool false) ∧ Jx (pre ++ [x]) W'))
    (hI : W.heap[bf]? = some (.cells #[.int .u64 (B : Int), .bool s] 24 (0, 0))) (hT : TabIn W) (hJ0 : J [] W) :
    CallsIn Fence.wide n Tryz.prog 94 #[.func (.yield l) #[] #[], .pointer (some ⟨bf, 0, none⟩)] W fun e W' => (∃ v, e = .returned v) ∧
      ((∃ ys, unR ys = runsN B ∧ J ys W') ∨ (∃ pre, unR pre <+: runsN B ∧ Jx pre W')) := by
  refine callsIn_of_wp Tryz.func94 rfl trivial ?_ rfl
  simp only [Tryz.ntmps94, List.size_toArray, List.length_cons, List.length_nil, Nat.reduceAdd, Nat.reduceSub, Array.replicate_succ, Array.replicate_zero, List.push_toArray, List.append_toArray, List.nil_append, List.cons_append]
  have c0 : W.cell? ⟨bf, 0, none⟩ = some (.int .u64 (B : Int)) := blk_cell hI 0
  have c1 : W.cell? ⟨bf, 1, none⟩ = some (.bool s) := blk_cell hI 1
  have hI0 := Lib.hid hI
  have hT0 := Lib.hid hT
  have hJb : ∀ pre A A', J pre A → Below A.heap.size A A' → J pre A' := fun pre A A' h hb => hJa pre A A' none h ⟨hb.os, hb.tape, hb.output, hb.size, fun k hk _ => hb.block k hk⟩ (fun r e => by cases e)
  clear hI hT
  gi_wp2_with fail
  refine ⟨trivial, ?_⟩
  refine (callsIn_wide.2 (first_any B 0 s W hB hT0.out)).mono ?_
  rintro e w1 ⟨rfl, hb⟩
  have hI1 : w1.heap[bf]? = some (.cells #[.int .u64 (B : Int), .bool s] 24 (0, 0)) := blk_below hI0.out hb
  have hT1 : TabIn w1 := hT0.out.below (hb.block _ hT0.out.lt)
  have hJ1 : J [] w1 := hJb _ _ _ hJ0 hb
  clear hI0 hT0 hJ0 hb c0 c1
  have hI1 := Lib.hid hI1
  have hT1 := Lib.hid hT1
  gi_wp2
  gi_loopw [3, 4] (fun p o wr => ∃ (pre : List Rn) (k u : Nat), p = .int .i64 (firstI B u).1 ∧ o = .bool (firstI B u).2 ∧ 64 ≤ u + k ∧ Hid (runsN B = unR pre ++ runsF B k u) ∧ J pre wr
      ∧ Hid (wr.heap[bf]? = some (.cells #[.int .u64 (B : Int), .bool s] 24 (0, 0))) ∧ Hid (TabIn wr)) (fun p o _ => meaR p o)
  case atStart => exact ⟨[], 64, 0, rfl, rfl, by omega, rfl, hJ1, hI1, hT1⟩
  case round =>
    obtain ⟨pre, k, u, rfl, rfl, hk, hE, hJ, hIr, hTr⟩ := hrel
    clear hI1 hT1 hJ1
    cases hf : firstN B u with
    | none =>
      have hEo : unR pre = runsN B := by
        rw [hE.out]
        cases k with
        | zero => simp [runsF]
        | succ k => simp [runsF, hf]
      rw [firstI_none hf]
      clear hE hf
      gi_wp2
      go_end0
      exact ⟨⟨_, rfl⟩, .inl ⟨pre, hEo, hJ⟩⟩
    | some p =>
      obtain ⟨hp1, hp2, hp3, hp4⟩ := firstN_some hf
      obtain ⟨he1, he2, he3, he4⟩ := endN_spec hB (v := p) hp2
      obtain ⟨k, rfl⟩ : ∃ j, k = j + 1 := ⟨k - 1, by omega⟩
      have hE2 : runsN B = unR (pre ++ [⟨(p, endN B p), he1, he2⟩]) ++ runsF B k (endN B p + 1) := by rw [hE.out, unR_snoc]; simp [runsF, hf]
      have hlen : pre.length < (runsN B).length := by rw [hE2]; simp [unR]
      have hE2 := Lib.hid hE2
      have hlen := Lib.hid hlen
      rw [firstI_some hf]
      have hin : Hid (∀ j, p ≤ j → j ≤ endN B p → B.testBit j = true) := fun j h1 h2 => by
        by_cases e : j = p
        · subst e; exact hp3
        · exact he3 j (by omega) h2
      have he4 := Lib.hid he4
      clear hE hf hp3 hp4 he3
      generalize endN B p = q at *
      gi_wp2
      gi_loopw [3] (fun v wr => ∃ j : Nat, v = .int .i64 (j : Int) ∧ p ≤ j ∧ j ≤ q + 1 ∧ J pre wr ∧ Hid (wr.heap[bf]? = some (.cells #[.int .u64 (B : Int), .bool s] 24 (0, 0))) ∧ Hid (TabIn wr)) (fun v _ => (64 - intOf v).toNat)
      case atStart => exact ⟨p, rfl, Nat.le_refl _, by omega, hJ, hIr, hTr⟩
      case round =>
        obtain ⟨j, rfl, hj1, hj2, hJ, hIr, hTr⟩ := hrel
        have c0 := blk_cell hIr.out 0
        have c1 := blk_cell hIr.out 1
        simp only [List.getElem?_toArray, List.getElem?_cons_succ, List.getElem?_cons_zero] at c0 c1
        gi_wp2_with fail
        refine ⟨trivial, ?_⟩
        refine (callsIn_wide.2 (has_any (B : Int) s (j : Int) _ ⟨by omega, by omega⟩)).mono ?_
        rintro e w2 ⟨rfl, hb⟩
        have hJ2 : J pre w2 := hJb _ _ _ hJ hb
        have hI2 : w2.heap[bf]? = some (.cells #[.int .u64 (B : Int), .bool s] 24 (0, 0)) := blk_below hIr.out hb
        have hT2 : TabIn w2 := hTr.out.below (hb.block _ hTr.out.lt)
        clear hJ hIr hTr hb c0 c1
        rw [hasB_nat]
        by_cases hj : j ≤ q
        · have e : (decide (j < 64) && B.testBit j) = true := by rw [hin.out j hj1 hj]; simp; omega
          rw [e]
          have hI2 := Lib.hid hI2
          have hT2 := Lib.hid hT2
          gi_wp2
          go_roundw
          case rel => exact ⟨j + 1, by go_num, by omega, by omega, hJ2, hI2, hT2⟩
          case measure => simp [intOf]; omega
        · obtain rfl : j = q + 1 := by omega
          have e : (decide (q + 1 < 64) && B.testBit (q + 1)) = false := by rw [he4.out]; simp
          rw [e]
          have c0 := blk_cell hI2 0
          have c1 := blk_cell hI2 1
          simp only [List.getElem?_toArray, List.getElem?_cons_succ, List.getElem?_cons_zero] at c0 c1
          obtain ⟨fn, tmps, assign, body, hy, hR⟩ := hY pre ⟨(p, q), he1, he2⟩ w2 hJ2 hlen.out
          simp only [encR] at hy
          have hI2 := Lib.hid hI2
          have hT2 := Lib.hid hT2
          gi_wp2
          refine hR.mono ?_
          rintro e W3 (⟨rfl, hJ3, hk3⟩ | ⟨rfl, hJx3⟩)
          · have hI3 : W3.heap[bf]? = some (.cells #[.int .u64 (B : Int), .bool s] 24 (0, 0)) := hk3.1.trans hI2.out
            have hT3 : TabIn W3 := hT2.out.below hk3.2
            have c0 := blk_cell hI3 0
            have c1 := blk_cell hI3 1
            simp only [List.getElem?_toArray, List.getElem?_cons_succ, List.getElem?_cons_zero] at c0 c1
            have hI3 := Lib.hid hI3
            have hT3 := Lib.hid hT3
            clear hk3 hy
            gi_wp2_with fail
            refine ⟨trivial, ?_⟩
            refine (callsIn_wide.2 (first_any B (q + 1) s _ hB hT3.out)).mono ?_
            rintro e w4 ⟨rfl, hb⟩
            have hI4 : w4.heap[bf]? = some (.cells #[.int .u64 (B : Int), .bool s] 24 (0, 0)) := blk_below hI3.out hb
            have hT4 : TabIn w4 := hT3.out.below (hb.block _ hT3.out.lt)
            have hJ4 := hJb _ _ _ hJ3 hb
            have hI4 := Lib.hid hI4
            have hT4 := Lib.hid hT4
            clear hb c0 c1
            gi_wp2
            go_roundw
            case rel => exact ⟨pre ++ [⟨(p, q), he1, he2⟩], k, q + 1, rfl, rfl, by omega, hE2, hJ4, hI4, hT4⟩
            case measure =>
              cases hg : firstN B (q + 1) with
              | none => rw [firstI_none hg]; simp [meaR, intOf]; omega
              | some r =>
                have := (firstN_some hg).1
                rw [firstI_some hg]; simp [meaR, intOf]; omega
          · gi_wp2
            refine bodyPost_ret (results_none rfl _ _ _) rfl ?_
            exact ⟨⟨_, rfl⟩, .inr ⟨pre ++ [⟨(p, q), he1, he2⟩], ⟨_, hE2.out.symm⟩, hJx3⟩⟩

theorem runs1_stops (n : Nat) (hn : 1 ≤ n) (bf : Nat) (B : Nat) (s : Bool) (hB : B < 18446744073709551616) (w : World) (hI : w.heap[bf]? = some (.cells #[.int .u64 (B : Int), .bool s] 24 (0, 0))) (hT : TabIn w) :
    SeqStopsK Fence.wide n Tryz.prog 94 #[.pointer (some ⟨bf, 0, none⟩)] encR (KpR bf) (fun xs => unR xs = runsN B) (fun pre => unR pre <+: runsN B) (runsN B).length w :=
  fun l J Jx W hW hJa _ hY hJ0 => runs1_in n hn l bf B s hB J Jx W hJa hY (blk_below hI hW) (hT.below (hW.block _ hT.lt)) hJ0
theorem eg_ru1 (args : Array Value) (w : World) : (callFunc 94 args).run Tryz.prog w = .ok (.enter 94 args) w := by kernel_rfl

end Go.Proofs.YtkdejfedigiohaaGreatDoor
