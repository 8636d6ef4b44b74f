/- From a walk's contract to a row: what this seat's rows ask. What the rows list of package-level variables: the de Bruijn table's cells; the world of the witness. -/
import Derived.Test.YtkdejfedigiohaaGreatDoorRows
import Derived.Test.YtkdejfedigiohaaGreatDoorQA
import Derived.Test.YtkdejfedigiohaaGreatDoorQB
import Derived.HandedShaped
import Derived.LaidMore
import Derived.Lay
import Derived.LaidHandle
import Derived.Stop.Joined
import Derived.ProofKit
import Derived.OpenShut
import Derived.Shelf.Vars
import Derived.Test.YtkdejfedigiohaaGreatDoorQC
/- From a walk's contract to a row: what this seat's rows ask. -/
namespace Go.Proofs.YtkdejfedigiohaaGreatDoor
open Go.ChangeShapes Go.WideShapes Go.ChangeAt Go.RowKit
set_option linter.unusedVariables false
set_option maxRecDepth 100000

theorem rowOwn : ownKnob Tryz.prog.godebug = none := by kernel_rfl
theorem rowLaidOut : laidOutB Tryz.prog = true := by kernel_rfl

/-- A law's row out of its contract: the contract may lean on the world's shape. -/
theorem lifted_of {H : Type} {enc : TypeId × Value → H} {os : Os} {f : FuncId} {fn : Func} {s : ChangeSpec} {X : World → Array Value → Prop} (hX : ∀ (w w' : World) (args : Array Value), w.heap = w'.heap → X w args → X w' args)
    (started : os.Started) (noInit : Tryz.checked.prog.inits.idxOf? f = none) (hfn : Tryz.checked.prog.funcs[f]? = some fn)
    (witness : ∃ (w : World) (tape : Tape) (i : Input), w.os = os ∧ (w.forCall tape i).Shaped Tryz.checked.prog ∧ i.vars = [] ∧ Input.okWide Tryz.checked.prog (w.forCall tape i) .any w.heap.size f i ∧
      ((s.pre enc Tryz.checked.prog fn [] false (w.forCall tape i).memory i.args ∧ X (w.forCall tape i).memory i.args) ∧ sizedMet enc Tryz.checked.prog fn (OpenSpec.ofChange s) false (w.forCall tape i).memory i.args) ∧ ({} : Assume).holds Tryz.checked.prog (lone (Frame.enter Tryz.checked.prog f i.args .normal) [] (w.forCall tape i)))
    (contract : ∀ (W : World) (base : Nat) (args : Array Value) (ds gs : List (DataW H)) (before : List MemPlace),
      (∀ (j : Nat) t v, fn.params[j]? = some t → args[j]? = some v → Value.okWide Tryz.prog W .any base t v) →
      DataW.Whole enc Tryz.prog fn.params.toList s.vars false W args.toList ds gs before → X W args → W.ShapedOpen Tryz.prog →
      (DataW.weightsEach Tryz.prog (fn.params.toList ++ s.plain.varTypes Tryz.prog) (ds ++ gs)).all (· ≤ reachBytes) = true →
      Calls Tryz.prog f args W fun e W' => ∃ v, e = .returned v ∧ s.post enc Tryz.prog fn false true false false W args v W') :
    ReturnsInHanded {} Tryz.checked os f .any (fun w args => (s.pre enc Tryz.checked.prog fn [] false w args ∧ X w args) ∧ sizedMet enc Tryz.checked.prog fn (OpenSpec.ofChange s) false w args) (s.post enc Tryz.checked.prog fn false true false false) := by
  refine returnsInHanded_of_calls rowOwn started noInit witness ?_
  rintro w tape i _ hsh _ ⟨_, _, _, fn', hfn', _, _, _, _, hval⟩ ⟨⟨⟨ds, gs, before, hw, _⟩, hx⟩, hz⟩ _
  obtain rfl : fn' = fn := Option.some.inj (hfn'.symm.trans hfn)
  have hw' := DataW.Whole.of_heap (w' := w.forCall tape i) (by rfl) hw
  refine (contract (w.forCall tape i) w.heap.size i.args ds gs before hval hw' (hX _ _ _ (by rfl) hx) hsh (hz.weights hw)).mono ?_
  rintro e W' ⟨v, rfl, hp⟩
  exact ChangeSpec.post_blind hp

theorem env_of_shaped {W : World} (h : W.ShapedOpen Tryz.prog) : Env W :=
  ⟨cell_of_shapedOpen_int (g := 3) (t := 3) (zero := #[.int .i64 0]) (k := .i64) h (of_decide_eq_true (by kernel_rfl)) (by kernel_rfl) rfl (by kernel_rfl) (by kernel_rfl) Tryz.underlying3⟩
theorem size_of_shaped {W : World} (h : W.ShapedOpen Tryz.prog) : 8 ≤ W.heap.size := by
  obtain ⟨o, o0, h1, _⟩ := h.2 7 (of_decide_eq_true (by kernel_rfl)) (of_decide_eq_true (by kernel_rfl))
  exact (Array.getElem?_eq_some_iff.1 h1).1

/-! ### A spec as an argument -/
theorem u64_cell {W : World} {base : Nat} {v : Value} (h : Cell.okWide Tryz.prog W .any base 22 v) : ∃ n, U64 n ∧ v = .int .u64 n := by
  simp only [Cell.okWide, Tryz.underlying22] at h
  cases v <;> simp_all [Cell.ok]
  obtain ⟨rfl, hn⟩ := h
  have e1 : IntKind.u64.min = 0 := rfl
  have e2 : IntKind.u64.max = 18446744073709551615 := rfl
  unfold IntKind.has at hn
  rw [e1, e2] at hn
  unfold U64
  omega
theorem bool_cell {W : World} {base : Nat} {v : Value} (h : Cell.okWide Tryz.prog W .any base 4 v) : ∃ b, v = .bool b := by
  simp only [Cell.okWide, Tryz.underlying4] at h
  cases v <;> simp_all [Cell.ok]
theorem sp_cells : Tryz.prog.cellTypes Tryz.prog.depth 26 = some [22, 4, 22, 4, 22, 4, 22, 4, 22, 4] := by kernel_rfl
theorem sp_size : Tryz.prog.cellsOf 26 = 10 := by kernel_rfl
theorem open_sp {W : World} {base : Nat} {v : Value} (h : Value.okWide Tryz.prog W .any base 26 v) : ∃ x : Sp, x.Ok ∧ v = .agg #[.int .u64 x.m.b, .bool x.m.s, .int .u64 x.h.b, .bool x.h.s, .int .u64 x.d.b, .bool x.d.s, .int .u64 x.n.b, .bool x.n.s, .int .u64 x.w.b, .bool x.w.s] := by
  simp only [Value.okWide, Tryz.underlying26] at h
  obtain ⟨cs, rfl, hs, ts, hts, _, hc⟩ := h
  obtain rfl := Option.some.inj (sp_cells.symm.trans hts)
  rw [sp_size] at hs
  have hcell : ∀ i (hi : i < 10), ∃ u, [22, 4, 22, 4, 22, 4, 22, 4, 22, 4][i]? = some u ∧ Cell.okWide Tryz.prog W .any base u (cs[i]'(by omega)) := fun i hi => by
    obtain ⟨u, hu, hk⟩ := hc i _ (Array.getElem?_eq_getElem (by omega))
    rw [show ([22, 4, 22, 4, 22, 4, 22, 4, 22, 4] : List Nat).length = 10 from rfl, Nat.mod_eq_of_lt hi] at hu
    exact ⟨u, hu, hk⟩
  have hu : ∀ i (hi : i < 10), [22, 4, 22, 4, 22, 4, 22, 4, 22, 4][i]? = some 22 → ∃ n, U64 n ∧ cs[i]'(by omega) = .int .u64 n := fun i hi e => by
    obtain ⟨u, h1, h2⟩ := hcell i hi
    obtain rfl := Option.some.inj (e.symm.trans h1)
    exact u64_cell h2
  have hb : ∀ i (hi : i < 10), [22, 4, 22, 4, 22, 4, 22, 4, 22, 4][i]? = some 4 → ∃ n, cs[i]'(by omega) = .bool n := fun i hi e => by
    obtain ⟨u, h1, h2⟩ := hcell i hi
    obtain rfl := Option.some.inj (e.symm.trans h1)
    exact bool_cell h2
  obtain ⟨n0, w0, e0⟩ := hu 0 (by decide) rfl
  obtain ⟨n1, e1⟩ := hb 1 (by decide) rfl
  obtain ⟨n2, w2, e2⟩ := hu 2 (by decide) rfl
  obtain ⟨n3, e3⟩ := hb 3 (by decide) rfl
  obtain ⟨n4, w4, e4⟩ := hu 4 (by decide) rfl
  obtain ⟨n5, e5⟩ := hb 5 (by decide) rfl
  obtain ⟨n6, w6, e6⟩ := hu 6 (by decide) rfl
  obtain ⟨n7, e7⟩ := hb 7 (by decide) rfl
  obtain ⟨n8, w8, e8⟩ := hu 8 (by decide) rfl
  obtain ⟨n9, e9⟩ := hb 9 (by decide) rfl
  refine ⟨⟨⟨n0, n1⟩, ⟨n2, n3⟩, ⟨n4, n5⟩, ⟨n6, n7⟩, ⟨n8, n9⟩⟩, ⟨w0, w2, w4, w6, w8⟩, ?_⟩
  congr 1
  apply Array.ext
  · exact hs
  · intro i h1 h2
    have hi : i < 10 := by omega
    obtain rfl | rfl | rfl | rfl | rfl | rfl | rfl | rfl | rfl | rfl : i = 0 ∨ i = 1 ∨ i = 2 ∨ i = 3 ∨ i = 4 ∨ i = 5 ∨ i = 6 ∨ i = 7 ∨ i = 8 ∨ i = 9 := by omega
    all_goals first | exact e0 | exact e1 | exact e2 | exact e3 | exact e4 | exact e5 | exact e6 | exact e7 | exact e8 | exact e9

/-! ### The world of the witness: what the rows list, laid -/
noncomputable def laidData : List (String × DataW Unit) := [("unicode/utf8.acceptRanges", Rows.laid_unicode_utf8_acceptRanges), ("unicode/utf8.first", Rows.laid_unicode_utf8_first)]
noncomputable def laidWorld (os : Os) : World :=
  let w0 := World.laidAll Tryz.prog os laidData
  { w0 with heap := w0.heap.modify 0 fun
      | .cells _ t frozen => .cells #[.iface (((Tryz.prog.cutTypes.find? (·.1 == "internal/reflectlite.rtype")).map (·.2)).getD 0) (.agg #[typeHandle Tryz.prog 114])] t frozen
      | o => o }

end Go.Proofs.YtkdejfedigiohaaGreatDoor

/- What the rows list of package-level variables: the de Bruijn table's cells; the world of the witness. -/
namespace Go.Proofs.YtkdejfedigiohaaGreatDoor
open Go.ChangeShapes Go.WideShapes Go.ChangeAt Go.RowKit
set_option linter.unusedVariables false
set_option maxRecDepth 100000

theorem laidVars_mem {P : Program} {w : World} {n : String} {d : DataW Unit} : ∀ {l : List (String × DataW Unit)} {ps : List MemPlace}, DataW.LaidVars P w l ps → (n, d) ∈ l →
    ∃ g t cs fuel p, P.globalNamed n = some g ∧ (P.globals[g]?).map (·.type) = some t ∧ w.var? P n = some cs ∧ DataW.trod (fun _ => ()) P w 0 (fun _ => true) false fuel t cs.toList = some (d, p)
  | [], _, _, hm => by cases hm
  | (m, c) :: r, ps, h, hm => by
    obtain ⟨g, t, cs, fuel, p, q, e1, e2, e3, e4, hr, rfl⟩ := h
    rcases List.mem_cons.1 hm with e | hm
    · cases e
      exact ⟨g, t, cs, fuel, p, e1, e2, e3, e4⟩
    · exact laidVars_mem hr hm
theorem laidH_mem {P : Program} {w : World} {l : List (String × DataW Unit)} (h : laidMetH P l w) {n : String} {d : DataW Unit} (hm : (n, d) ∈ l) (hn : d.handleName? = none) :
    ∃ g t cs fuel p, P.globalNamed n = some g ∧ (P.globals[g]?).map (·.type) = some t ∧ w.var? P n = some cs ∧ DataW.trod (fun _ => ()) P w 0 (fun _ => true) false fuel t cs.toList = some (d, p) := by
  have key : ∀ l', laidMet P l' w → (n, d) ∈ l' → ∃ g t cs fuel p, P.globalNamed n = some g ∧ (P.globals[g]?).map (·.type) = some t ∧ w.var? P n = some cs ∧ DataW.trod (fun _ => ()) P w 0 (fun _ => true) false fuel t cs.toList = some (d, p) := by
    intro l' h1 hm'
    obtain ⟨ps, h2, _⟩ := h1
    exact laidVars_mem h2 hm'
  unfold laidMetH at h
  split at h
  · exact key _ h hm
  · exact key _ h.1 (List.mem_filter.2 ⟨hm, by simp [hn]⟩)
theorem mapM_some {α β : Type} {f : α → Option β} : ∀ {l : List α} {xs : List β}, l.mapM f = some xs → ∀ (i : Nat) (x : α), l[i]? = some x → ∃ y, f x = some y ∧ xs[i]? = some y
  | [], xs, h, i, x, hx => by simp at hx
  | a :: l, xs, h, i, x, hx => by
    simp only [List.mapM_cons, Option.bind_eq_bind, Option.bind_eq_some_iff, Option.pure_def, Option.some.injEq] at h
    obtain ⟨y, hy, ys, hys, rfl⟩ := h
    cases i with
    | zero => simp at hx; subst hx; exact ⟨y, hy, by simp⟩
    | succ i =>
      obtain ⟨z, h1, h2⟩ := mapM_some hys i x (by simpa using hx)
      exact ⟨z, h1, by simpa using h2⟩
theorem u8_of_trod {H : Type} {enc : TypeId × Value → H} {P : Program} {w : World} {base : Nat} {sp : Nat → Bool} {held : Bool} {fuel : Nat} {t : TypeId} {k : IntKind} {cs : List Value} {y : DataW H × List MemPlace}
    (ht : P.underlying t = some (.int k)) (h : DataW.trod enc P w base sp held fuel t cs = some y) : ∃ n, cs = [.int k n] ∧ y = (.lit (.int k n), []) := by
  cases fuel with
  | zero => simp [DataW.trod] at h
  | succ fuel =>
    rcases cs with _ | ⟨c, _ | ⟨d, r⟩⟩
    · simp [DataW.trod, ht] at h
    · cases c <;> simp [DataW.trod, ht] at h
      rename_i k' n
      obtain ⟨⟨rfl, _⟩, rfl⟩ := h
      exact ⟨n, rfl, rfl⟩
    · cases c <;> simp [DataW.trod, ht] at h
theorem u8s_of_trod {H : Type} {enc : TypeId × Value → H} {P : Program} {w : World} {base : Nat} {sp : Nat → Bool} {held : Bool} {fuel n : Nat} {t e : TypeId} {cs : List Value} {ns : List Int} {p : List MemPlace}
    (ht : P.underlying t = some (.array n e)) (he : P.underlying e = some (.int .u8)) (hce : P.cellsOf e = 1) (hns : ns.length = n)
    (h : DataW.trod enc P w base sp held fuel t cs = some (.agg (ns.map fun i => .lit (.int .u8 i)), p)) : ∀ i, i < n → cs[i]? = some (.int .u8 (ns.getD i 0)) := by
  intro i hi
  cases fuel with
  | zero => simp [DataW.trod] at h
  | succ fuel =>
    have h' : (if cs.length = P.cellsOf t then ((List.range n).mapM fun i => DataW.trod enc P w base sp held fuel e ((cs.drop (i * P.cellsOf e)).take (P.cellsOf e))).map fun xs => (DataW.agg (xs.map (·.1)), xs.flatMap (·.2)) else none) = some (.agg (ns.map fun i => .lit (.int .u8 i)), p) := by
      rw [← h]
      rcases cs with _ | ⟨c, r⟩ <;> simp [DataW.trod, ht]
    split at h'
    · obtain ⟨xs, hx, he2⟩ := Option.map_eq_some_iff.1 h'
      obtain ⟨y, hy, hxi⟩ := mapM_some hx i i (by simp [hi])
      rw [hce, Nat.mul_one] at hy
      obtain ⟨m, hc, rfl⟩ := u8_of_trod he hy
      have h1 : (xs.map (·.1)) = ns.map fun i => DataW.lit (.int .u8 i) := by injection (Prod.mk.inj he2).1
      have h2 := congrArg (fun l => l[i]?) h1
      simp only [List.getElem?_map, hxi, Option.map_some, List.getElem?_eq_getElem (show i < ns.length by omega), Option.some.injEq, DataW.lit.injEq, Lit.int.injEq, true_and] at h2
      have h3 := congrArg (fun l => l[0]?) hc
      simp only [List.getElem?_take, List.getElem?_drop, Nat.add_zero, List.getElem?_cons_zero] at h3
      rw [if_pos (by decide)] at h3
      rw [h3, List.getD_eq_getElem?_getD, List.getElem?_eq_getElem (show i < ns.length by omega), Option.getD_some, h2]
    · cases h'

theorem tab_of_laid {W : World} {l : List (String × DataW Unit)} (h : laidMetH Tryz.prog l W) (hm : ("math/bits.deBruijn64tab", Rows.laid_math_bits_deBruijn64tab) ∈ l) : TabIn W := by
  obtain ⟨g, t, cs, fuel, p, e1, e2, e3, e4⟩ := laidH_mem h hm (by rfl)
  have hg : Tryz.prog.globalNamed "math/bits.deBruijn64tab" = some 1 := by kernel_rfl
  have htt : (Tryz.prog.globals[1]?).map (·.type) = some 172 := by kernel_rfl
  obtain rfl := Option.some.inj (hg.symm.trans e1)
  obtain rfl := Option.some.inj (htt.symm.trans e2)
  have hd : (Rows.laid_math_bits_deBruijn64tab : DataW Unit) = .agg ((Lib.deBruijn64tab.map fun n => ((n : Nat) : Int)).map fun i => .lit (.int .u8 i)) := by rfl
  rw [hd] at e4
  have key := u8s_of_trod Tryz.underlying172 Tryz.underlying5 (by kernel_rfl) (by simp [Lib.deBruijn64tab]) e4
  unfold World.var? at e3
  rw [hg] at e3
  simp only [Option.bind_some] at e3
  intro j hj
  have hj' : j < 64 := by simpa [Lib.deBruijn64tab] using hj
  have hk := key j hj'
  split at e3
  · rename_i c0 t0 z0 hw
    obtain rfl := Option.some.inj e3
    unfold World.cell?
    rw [hw]
    simp only [List.getD_eq_getElem?_getD, List.getElem?_map] at hk ⊢
    rw [Array.getElem?_toList] at hk
    rw [hk]
    simp [List.getElem?_eq_getElem hj]
  · cases e3

theorem fd_cells : Tryz.prog.cellTypes Tryz.prog.depth 24 = some [22, 4] := by kernel_rfl
theorem fd_size : Tryz.prog.cellsOf 24 = 2 := by kernel_rfl
theorem open_fd {W : World} {base : Nat} {v : Value} (h : Value.okWide Tryz.prog W .any base 24 v) : ∃ (b : Int) (s : Bool), U64 b ∧ v = .agg #[.int .u64 b, .bool s] := by
  simp only [Value.okWide, Tryz.underlying24] at h
  obtain ⟨cs, rfl, hs, ts, hts, _, hc⟩ := h
  obtain rfl := Option.some.inj (fd_cells.symm.trans hts)
  rw [fd_size] at hs
  have hcell : ∀ i (hi : i < 2), ∃ u, [22, 4][i]? = some u ∧ Cell.okWide Tryz.prog W .any base u (cs[i]'(by omega)) := fun i hi => by
    obtain ⟨u, hu, hk⟩ := hc i _ (Array.getElem?_eq_getElem (by omega))
    rw [show ([22, 4] : List Nat).length = 2 from rfl, Nat.mod_eq_of_lt hi] at hu
    exact ⟨u, hu, hk⟩
  obtain ⟨u0, h1, h2⟩ := hcell 0 (by decide)
  obtain rfl := Option.some.inj h1
  obtain ⟨b, hb, e0⟩ := u64_cell h2
  obtain ⟨u1, h3, h4⟩ := hcell 1 (by decide)
  obtain rfl := Option.some.inj h3
  obtain ⟨s, e1⟩ := bool_cell h4
  refine ⟨b, s, hb, ?_⟩
  congr 1
  apply Array.ext
  · exact hs
  · intro i h1 h2
    have hi : i < 2 := by omega
    obtain rfl | rfl : i = 0 ∨ i = 1 := by omega
    · exact e0
    · exact e1

/-! ### The world of the witness: what the show rows list, laid -/
noncomputable def laidData20 : List (String × DataW Unit) := [("math/bits.deBruijn32tab", Rows.laid_math_bits_deBruijn32tab), ("math/bits.deBruijn64tab", Rows.laid_math_bits_deBruijn64tab), ("internal/strconv.uint64pow10", Rows.laid_internal_strconv_uint64pow10), ("unicode/utf8.acceptRanges", Rows.laid_unicode_utf8_acceptRanges), ("unicode/utf8.first", Rows.laid_unicode_utf8_first)]
noncomputable def laidWorld20 (os : Os) : World :=
  let w0 := World.laidAll Tryz.prog os laidData20
  { w0 with heap := w0.heap.modify 0 fun
      | .cells _ t frozen => .cells #[.iface (((Tryz.prog.cutTypes.find? (·.1 == "internal/reflectlite.rtype")).map (·.2)).getD 0) (.agg #[typeHandle Tryz.prog 114])] t frozen
      | o => o }

end Go.Proofs.YtkdejfedigiohaaGreatDoor
