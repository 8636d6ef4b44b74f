/- From a walk's contract to a row: what this seat's rows ask. -/
import Derived.Test.YtkdejfedigiohaaGreatDoorRows
import Derived.Test.YtkdejfedigiohaaGreatDoorSpec
import Derived.Test.YtkdejfedigiohaaGreatDoorItem
import Derived.HandedShaped
import Derived.LaidMore
import Derived.Lay
import Derived.LaidHandle
import Derived.Stop.Joined
import Derived.ProofKit
import Derived.OpenShut
import Derived.Shelf.Vars
namespace Go.Proofs.YtkdejfedigiohaaGreatDoor
open Go.ChangeShapes Go.WideShapes Go.ChangeAt Go.RowKit
set_option linter.unusedVariables false
set_option maxRecDepth 100000

theorem rowOwn : ownKnob Tryz.prog.godebug = none := by kernel_rfl
theorem rowLaidOut : laidOutB Tryz.prog = true := by kernel_rfl

/-- A law's row out of its contract: the contract may lean on the world's shape. -/
theorem lifted_of {H : Type} {enc : TypeId × Value → H} {os : Os} {f : FuncId} {fn : Func} {s : ChangeSpec} {X : World → Array Value → Prop} (hX : ∀ (w w' : World) (args : Array Value), w.heap = w'.heap → X w args → X w' args)
    (started : os.Started) (noInit : Tryz.checked.prog.inits.idxOf? f = none) (hfn : Tryz.checked.prog.funcs[f]? = some fn)
    (witness : ∃ (w : World) (tape : Tape) (i : Input), w.os = os ∧ (w.forCall tape i).Shaped Tryz.checked.prog ∧ i.vars = [] ∧ Input.okWide Tryz.checked.prog (w.forCall tape i) .any w.heap.size f i ∧
      ((s.pre enc Tryz.checked.prog fn [] false (w.forCall tape i).memory i.args ∧ X (w.forCall tape i).memory i.args) ∧ sizedMet enc Tryz.checked.prog fn (OpenSpec.ofChange s) false (w.forCall tape i).memory i.args) ∧ ({} : Assume).holds Tryz.checked.prog (lone (Frame.enter Tryz.checked.prog f i.args .normal) [] (w.forCall tape i)))
    (contract : ∀ (W : World) (base : Nat) (args : Array Value) (ds gs : List (DataW H)) (before : List MemPlace),
      (∀ (j : Nat) t v, fn.params[j]? = some t → args[j]? = some v → Value.okWide Tryz.prog W .any base t v) →
      DataW.Whole enc Tryz.prog fn.params.toList s.vars false W args.toList ds gs before → X W args → W.ShapedOpen Tryz.prog →
      (DataW.weightsEach Tryz.prog (fn.params.toList ++ s.plain.varTypes Tryz.prog) (ds ++ gs)).all (· ≤ reachBytes) = true →
      Calls Tryz.prog f args W fun e W' => ∃ v, e = .returned v ∧ s.post enc Tryz.prog fn false true false false W args v W') :
    ReturnsInHanded {} Tryz.checked os f .any (fun w args => (s.pre enc Tryz.checked.prog fn [] false w args ∧ X w args) ∧ sizedMet enc Tryz.checked.prog fn (OpenSpec.ofChange s) false w args) (s.post enc Tryz.checked.prog fn false true false false) := by
  refine returnsInHanded_of_calls rowOwn started noInit witness ?_
  rintro w tape i _ hsh _ ⟨_, _, _, fn', hfn', _, _, _, _, hval⟩ ⟨⟨⟨ds, gs, before, hw, _⟩, hx⟩, hz⟩ _
  obtain rfl : fn' = fn := Option.some.inj (hfn'.symm.trans hfn)
  have hw' := DataW.Whole.of_heap (w' := w.forCall tape i) (by rfl) hw
  refine (contract (w.forCall tape i) w.heap.size i.args ds gs before hval hw' (hX _ _ _ (by rfl) hx) hsh (hz.weights hw)).mono ?_
  rintro e W' ⟨v, rfl, hp⟩
  exact ChangeSpec.post_blind hp

theorem env_of_shaped {W : World} (h : W.ShapedOpen Tryz.prog) : Env W :=
  ⟨cell_of_shapedOpen_int (g := 3) (t := 3) (zero := #[.int .i64 0]) (k := .i64) h (of_decide_eq_true (by kernel_rfl)) (by kernel_rfl) rfl (by kernel_rfl) (by kernel_rfl) Tryz.underlying3⟩
theorem size_of_shaped {W : World} (h : W.ShapedOpen Tryz.prog) : 8 ≤ W.heap.size := by
  obtain ⟨o, o0, h1, _⟩ := h.2 7 (of_decide_eq_true (by kernel_rfl)) (of_decide_eq_true (by kernel_rfl))
  exact (Array.getElem?_eq_some_iff.1 h1).1

/-! ### A spec as an argument -/
theorem u64_cell {W : World} {base : Nat} {v : Value} (h : Cell.okWide Tryz.prog W .any base 22 v) : ∃ n, U64 n ∧ v = .int .u64 n := by
  simp only [Cell.okWide, Tryz.underlying22] at h
  cases v <;> simp_all [Cell.ok]
  obtain ⟨rfl, hn⟩ := h
  have e1 : IntKind.u64.min = 0 := rfl
  have e2 : IntKind.u64.max = 18446744073709551615 := rfl
  unfold IntKind.has at hn
  rw [e1, e2] at hn
  unfold U64
  omega
theorem bool_cell {W : World} {base : Nat} {v : Value} (h : Cell.okWide Tryz.prog W .any base 4 v) : ∃ b, v = .bool b := by
  simp only [Cell.okWide, Tryz.underlying4] at h
  cases v <;> simp_all [Cell.ok]
theorem sp_cells : Tryz.prog.cellTypes Tryz.prog.depth 26 = some [22, 4, 22, 4, 22, 4, 22, 4, 22, 4] := by kernel_rfl
theorem sp_size : Tryz.prog.cellsOf 26 = 10 := by kernel_rfl
theorem open_sp {W : World} {base : Nat} {v : Value} (h : Value.okWide Tryz.prog W .any base 26 v) : ∃ x : Sp, x.Ok ∧ v = .agg #[.int .u64 x.m.b, .bool x.m.s, .int .u64 x.h.b, .bool x.h.s, .int .u64 x.d.b, .bool x.d.s, .int .u64 x.n.b, .bool x.n.s, .int .u64 x.w.b, .bool x.w.s] := by
  simp only [Value.okWide, Tryz.underlying26] at h
  obtain ⟨cs, rfl, hs, ts, hts, _, hc⟩ := h
  obtain rfl := Option.some.inj (sp_cells.symm.trans hts)
  rw [sp_size] at hs
  have hcell : ∀ i (hi : i < 10), ∃ u, [22, 4, 22, 4, 22, 4, 22, 4, 22, 4][i]? = some u ∧ Cell.okWide Tryz.prog W .any base u (cs[i]'(by omega)) := fun i hi => by
    obtain ⟨u, hu, hk⟩ := hc i _ (Array.getElem?_eq_getElem (by omega))
    rw [show ([22, 4, 22, 4, 22, 4, 22, 4, 22, 4] : List Nat).length = 10 from rfl, Nat.mod_eq_of_lt hi] at hu
    exact ⟨u, hu, hk⟩
  have hu : ∀ i (hi : i < 10), [22, 4, 22, 4, 22, 4, 22, 4, 22, 4][i]? = some 22 → ∃ n, U64 n ∧ cs[i]'(by omega) = .int .u64 n := fun i hi e => by
    obtain ⟨u, h1, h2⟩ := hcell i hi
    obtain rfl := Option.some.inj (e.symm.trans h1)
    exact u64_cell h2
  have hb : ∀ i (hi : i < 10), [22, 4, 22, 4, 22, 4, 22, 4, 22, 4][i]? = some 4 → ∃ n, cs[i]'(by omega) = .bool n := fun i hi e => by
    obtain ⟨u, h1, h2⟩ := hcell i hi
    obtain rfl := Option.some.inj (e.symm.trans h1)
    exact bool_cell h2
  obtain ⟨n0, w0, e0⟩ := hu 0 (by decide) rfl
  obtain ⟨n1, e1⟩ := hb 1 (by decide) rfl
  obtain ⟨n2, w2, e2⟩ := hu 2 (by decide) rfl
  obtain ⟨n3, e3⟩ := hb 3 (by decide) rfl
  obtain ⟨n4, w4, e4⟩ := hu 4 (by decide) rfl
  obtain ⟨n5, e5⟩ := hb 5 (by decide) rfl
  obtain ⟨n6, w6, e6⟩ := hu 6 (by decide) rfl
  obtain ⟨n7, e7⟩ := hb 7 (by decide) rfl
  obtain ⟨n8, w8, e8⟩ := hu 8 (by decide) rfl
  obtain ⟨n9, e9⟩ := hb 9 (by decide) rfl
  refine ⟨⟨⟨n0, n1⟩, ⟨n2, n3⟩, ⟨n4, n5⟩, ⟨n6, n7⟩, ⟨n8, n9⟩⟩, ⟨w0, w2, w4, w6, w8⟩, ?_⟩
  congr 1
  apply Array.ext
  · exact hs
  · intro i h1 h2
    have hi : i < 10 := by omega
    obtain rfl | rfl | rfl | rfl | rfl | rfl | rfl | rfl | rfl | rfl : i = 0 ∨ i = 1 ∨ i = 2 ∨ i = 3 ∨ i = 4 ∨ i = 5 ∨ i = 6 ∨ i = 7 ∨ i = 8 ∨ i = 9 := by omega
    all_goals first | exact e0 | exact e1 | exact e2 | exact e3 | exact e4 | exact e5 | exact e6 | exact e7 | exact e8 | exact e9

/-! ### The world of the witness: what the rows list, laid -/
noncomputable def laidData : List (String × DataW Unit) := [("unicode/utf8.acceptRanges", Rows.laid_unicode_utf8_acceptRanges), ("unicode/utf8.first", Rows.laid_unicode_utf8_first)]
noncomputable def laidWorld (os : Os) : World :=
  let w0 := World.laidAll Tryz.prog os laidData
  { w0 with heap := w0.heap.modify 0 fun
      | .cells _ t frozen => .cells #[.iface (((Tryz.prog.cutTypes.find? (·.1 == "internal/reflectlite.rtype")).map (·.2)).getD 0) (.agg #[typeHandle Tryz.prog 114])] t frozen
      | o => o }

end Go.Proofs.YtkdejfedigiohaaGreatDoor
