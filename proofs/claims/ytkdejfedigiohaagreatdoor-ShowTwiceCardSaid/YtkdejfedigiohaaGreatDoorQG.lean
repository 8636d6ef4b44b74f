/- errors.As at a *field.fault that wraps an api.Errno, and field.number. errors.As at a *field.fault that wraps an api.Errno, and field.number: the walks. An item of a field's text: what is wrong with it. lex.Name where there is no name; lex.Value at whatever text. field.Parse at a text one of whose items is wrong. field.Parse at whatever text. -/
import Derived.Test.YtkdejfedigiohaaGreatDoorQB
import Derived.LaidEql
import Derived.Stop.Asserts
import Derived.RowKitTokens
import Derived.Test.YtkdejfedigiohaaGreatDoorQC
/- errors.As at a *field.fault that wraps an api.Errno, and field.number. -/
namespace Go.Proofs.YtkdejfedigiohaaGreatDoor
open Go.RowKit Go.Proofs.YtkdejfedigiohaaGreatDoorW.PrintWords Go.Proofs.YtkdejfedigiohaaGreatDoorW.PrintLast Go.Proofs.YtkdejfedigiohaaGreatDoorW.PrintMore
set_option linter.unusedVariables false
set_option linter.unusedSimpArgs false

open Go.Extern.Stop Go.Stop Go.Extern

/-- A type, as reflectlite's handle. -/
abbrev hT (t : Nat) : Value := .pointer (some ⟨7, t, none⟩)
theorem as_valueOf (t : Addr) (w : World) : (ReflectliteValue.unpack (.iface 139 (.pointer (some t)))).run Tryz.prog w
    = .ok (.agg #[hT 139, .pointer (some ⟨w.heap.size, 0, none⟩), .int .u64 150]) (w.alloc (.cells #[.pointer (some t)] 139)) := by kernel_rfl
theorem as_type (a : Addr) (w : World) : (ReflectliteValue.methodAny (ReflectliteValue.valueError "reflectlite.Value.Type" 0) (fun t _ _ _ => ReflectliteType.toType t) #[.agg #[hT 139, .pointer (some a), .int .u64 150]]).run Tryz.prog w
    = .ok (.iface 183 (.agg #[hT 139])) w := by kernel_rfl
theorem as_kindP (w : World) : ((ReflectliteType.abiMethod fun t => (fun a : Nat => Value.int IntKind.u8 (a : Int)) <$> Rtype.kind t) #[hT 139]).run Tryz.prog w = .ok (.int .u8 22) w := by kernel_rfl
theorem as_kindE (w : World) : ((ReflectliteType.abiMethod fun t => (fun a : Nat => Value.int IntKind.u8 (a : Int)) <$> Rtype.kind t) #[hT 28]).run Tryz.prog w = .ok (.int .u8 2) w := by kernel_rfl
theorem as_elem (w : World) : (ReflectliteType.method ReflectliteType.elem #[.agg #[hT 139]]).run Tryz.prog w = .ok (.iface 183 (.agg #[hT 28])) w := by kernel_rfl
theorem as_implements (w : World) : (ReflectliteType.relation "Implements" ReflectliteType.implements_ #[.agg #[hT 28], .iface 183 (.agg #[hT 114])]).run Tryz.prog w = .ok (.bool true) w := by kernel_rfl
theorem as_typeOfE (v : Value) (w : World) : (ReflectliteType.typeOf #[.iface 28 v]).run Tryz.prog w = .ok (.iface 183 (.agg #[hT 28])) w := by kernel_rfl
theorem as_typeOfF (v : Value) (w : World) : (ReflectliteType.typeOf #[.iface 154 v]).run Tryz.prog w = .ok (.iface 183 (.agg #[hT 154])) w := by kernel_rfl
theorem as_assignE (w : World) : (ReflectliteType.relation "AssignableTo" ReflectliteType.assignableTo #[.agg #[hT 28], .iface 183 (.agg #[hT 28])]).run Tryz.prog w = .ok (.bool true) w := by kernel_rfl
theorem as_assignF (w : World) : (ReflectliteType.relation "AssignableTo" ReflectliteType.assignableTo #[.agg #[hT 154], .iface 183 (.agg #[hT 28])]).run Tryz.prog w = .ok (.bool false) w := by kernel_rfl
theorem as_valueOfE (e : Int) (w : World) : (ReflectliteValue.unpack (.iface 28 (.int .i64 e))).run Tryz.prog w
    = .ok (.agg #[hT 28, .pointer (some ⟨w.heap.size, 0, none⟩), .int .u64 130]) (w.alloc (.cells #[.int .i64 e] 28)) := by kernel_rfl
theorem as_mKind (h : Value) (w : World) : (Go.method 334 183 (.agg #[h]) "Kind").run Tryz.prog w = .ok (186, h) w := by kernel_rfl
theorem as_mElem (h : Value) (w : World) : (Go.method 334 183 (.agg #[h]) "Elem").run Tryz.prog w = .ok (199, .agg #[h]) w := by kernel_rfl
theorem as_mImpl (h : Value) (w : World) : (Go.method 334 183 (.agg #[h]) "Implements").run Tryz.prog w = .ok (200, .agg #[h]) w := by kernel_rfl
theorem as_mAssign (h : Value) (w : World) : (Go.method 334 183 (.agg #[h]) "AssignableTo").run Tryz.prog w = .ok (197, .agg #[h]) w := by kernel_rfl
theorem rlm (z : Sem Value) (f : TypeId → Addr → Nat → Nat → Sem Value) (v : Value) :
    ReflectliteValue.method z f #[v] = (do match ← ReflectliteValue.parts v with | none => z | some (t, a, fl) => f t a fl (fl % 32)) := rfl
theorem as_partsP (a : Addr) (w : World) : (ReflectliteValue.parts (.agg #[hT 139, .pointer (some a), .int .u64 150])).run Tryz.prog w = .ok (some (139, a, 150)) w := by kernel_rfl
theorem as_isNil (a p : Addr) (W : World) (ha : W.cell? a = some (.pointer (some p))) :
    (ReflectliteValue.method (ReflectliteValue.valueError "reflectlite.Value.IsNil" 0) ReflectliteValue.isNil #[.agg #[hT 139, .pointer (some a), .int .u64 150]]).run Tryz.prog W = .ok (.bool false) W := by
  rw [rlm]
  simp only [Sem.run_bind, as_partsP, Result.andThen]
  simp [ReflectliteValue.isNil, loadVar, isAgg, underlying, Tryz.underlying139, ha, Result.andThen]
theorem as_elemOf (w : World) : (Rtype.elem? 139).run Tryz.prog w = .ok (some 28) w := by kernel_rfl
theorem as_mkE (p : Addr) (w : World) : (ReflectliteValue.mk 28 p ReflectliteValue.flagAddr).run Tryz.prog w = .ok (.agg #[hT 28, .pointer (some p), .int .u64 386]) w := by kernel_rfl
theorem as_elemV (a p : Addr) (W : World) (ha : W.cell? a = some (.pointer (some p))) :
    (ReflectliteValue.method (ReflectliteValue.valueError "reflectlite.Value.Elem" 0) ReflectliteValue.elem #[.agg #[hT 139, .pointer (some a), .int .u64 150]]).run Tryz.prog W
      = .ok (.agg #[hT 28, .pointer (some p), .int .u64 386]) W := by
  rw [rlm]
  simp only [Sem.run_bind, as_partsP, Result.andThen]
  simp [ReflectliteValue.elem, loadVar, isAgg, underlying, Tryz.underlying139, ha, Result.andThen, as_elemOf, as_mkE]
theorem rls (v x : Value) : ReflectliteValue.set #[v, x] = (do
    let (some (dst, a, fl), some (src, b, _)) := (← ReflectliteValue.parts v, ← ReflectliteValue.parts x)
      | unsupported (.noEntry "extern/(internal/reflectlite.Value).Set.zeroValue")
    if fl / ReflectliteValue.flagAddr % 2 == 0 then unsupported (.noEntry "extern/(internal/reflectlite.Value).Set.unaddressable")
    let val ← loadVar src b
    if ← Rtype.directlyAssignable dst src then storeVar dst a val
    else if ← Rtype.implements dst src then
      if (← Rtype.kind src) == 20 then
        match val with
        | .nilIface => unsupported (.noEntry "extern/reflectlite: a nil value of one interface type handed on as a value of another")
        | _ => storeVar dst a val
      else storeVar dst a (.iface src val)
    else panicString ("reflectlite.Set: value of type " ++ (← Rtype.spelt src) ++ " is not assignable to type " ++ (← Rtype.spelt dst))
    pure (.tuple #[])) := rfl
theorem as_partsA (a : Addr) (w : World) : (ReflectliteValue.parts (.agg #[hT 28, .pointer (some a), .int .u64 386])).run Tryz.prog w = .ok (some (28, a, 386)) w := by kernel_rfl
theorem as_partsE (a : Addr) (w : World) : (ReflectliteValue.parts (.agg #[hT 28, .pointer (some a), .int .u64 130])).run Tryz.prog w = .ok (some (28, a, 130)) w := by kernel_rfl
theorem as_direct (w : World) : (Rtype.directlyAssignable 28 28).run Tryz.prog w = .ok true w := by kernel_rfl
theorem as_set (ta b : Addr) (e : Int) (old : Value) (W : World) (hb : W.cell? b = some (.int .i64 e)) (ht : W.cell? ta = some old) (hf : W.frozen? ta = false) :
    (ReflectliteValue.set #[.agg #[hT 28, .pointer (some ta), .int .u64 386], .agg #[hT 28, .pointer (some b), .int .u64 130]]).run Tryz.prog W
      = .ok (.tuple #[]) (W.setCell ta (.int .i64 e)) := by
  rw [rls]
  simp only [Sem.run_bind, as_partsA, as_partsE, Result.andThen]
  simp [ReflectliteValue.flagAddr, loadVar, isAgg, underlying, Tryz.underlying28, hb, Result.andThen, as_direct, storeVar, Value.cells, storeCells, Addr.add]
  rw [run_store Tryz.prog W ta _ _ (by rfl)]
  simp [ht, hf]

end Go.Proofs.YtkdejfedigiohaaGreatDoor

/- errors.As at a *field.fault that wraps an api.Errno, and field.number: the walks. -/
namespace Go.Proofs.YtkdejfedigiohaaGreatDoor
open Go.RowKit Go.Proofs.YtkdejfedigiohaaGreatDoorW.PrintWords Go.Proofs.YtkdejfedigiohaaGreatDoorW.PrintLast Go.Proofs.YtkdejfedigiohaaGreatDoorW.PrintMore
set_option linter.unusedVariables false
set_option linter.unusedSimpArgs false

open Go.Extern.Stop Go.Stop Go.Extern

theorem ta_as (v : Value) (w : World) : (Instr.typeAssert (.iface 154 v) 114 188 true).run Tryz.prog w = .ok (.tuple #[.nilIface, .bool false]) w := run_typeAssert_lacksB Tryz.underlying188 (by kernel_rfl) (by kernel_rfl) v 114 w
theorem ta_un (v : Value) (w : World) : (Instr.typeAssert (.iface 154 v) 114 191 true).run Tryz.prog w = .ok (.tuple #[.iface 154 v, .bool true]) w := run_typeAssert_hasB Tryz.underlying191 (by kernel_rfl) v 114 w
theorem m_un (v : Value) (w : World) : (Go.method 334 154 v "Unwrap").run Tryz.prog w = .ok (192, v) w := by kernel_rfl
theorem eg_unw (args : Array Value) (w : World) : (callFunc 192 args).run Tryz.prog w = .ok (.enter 192 args) w := by kernel_rfl
theorem unwrap_q (fb : Nat) (e : Int) (w : World) (hf : w.cell? ⟨fb, 0, none⟩ = some (.int .i64 e)) :
    Calls Tryz.prog 192 #[.pointer (some ⟨fb, 0, none⟩)] w fun r w' => r = .returned (.iface 28 (.int .i64 e)) ∧ w = w' := by
  go_enter Tryz.func192, Tryz.ntmps192
  go_wp2
  go_ret
  exact ⟨rfl, rfl⟩

set_option maxRecDepth 100000 in
set_option maxHeartbeats 2000000 in
theorem as_loop (fb : Nat) (e : Int) (t a : Addr) (w : World) (hf : w.cell? ⟨fb, 0, none⟩ = some (.int .i64 e)) (ha : w.cell? a = some (.pointer (some t))) (old : Value) (ht : w.cell? t = some old) (hft : w.frozen? t = false) :
    Calls Tryz.prog 141 #[.iface 154 (.pointer (some ⟨fb, 0, none⟩)), .iface 139 (.pointer (some t)), .agg #[hT 139, .pointer (some a), .int .u64 150], .iface 183 (.agg #[hT 28])] w fun r w' => r = .returned (.bool true) ∧ KX t.block w w' ∧ w'.cell? t = some (.int .i64 e) := by
  have hX1 := @run_callFunc_extern Tryz.prog 154 _ ReflectliteType.typeOf Tryz.func154 (by kernel_rfl) (by kernel_rfl) (by kernel_rfl) (by kernel_rfl)
  have hX2 := @run_callFunc_extern Tryz.prog 197 _ (ReflectliteType.relation "AssignableTo" ReflectliteType.assignableTo) Tryz.func197 (by kernel_rfl) (by kernel_rfl) (by kernel_rfl) (by kernel_rfl)
  have hX3 := @run_callFunc_extern Tryz.prog 155 _ (ReflectliteValue.method (ReflectliteValue.valueError "reflectlite.Value.Elem" 0) ReflectliteValue.elem) Tryz.func155 (by kernel_rfl) (by kernel_rfl) (by kernel_rfl) (by kernel_rfl)
  have hX4 := @run_callFunc_extern Tryz.prog 138 _ (fun args => ReflectliteValue.unpack (args.getD 0 (.tuple #[]))) Tryz.func138 (by kernel_rfl) (by kernel_rfl) (by kernel_rfl) (by kernel_rfl)
  have hX5 := @run_callFunc_extern Tryz.prog 156 _ ReflectliteValue.set Tryz.func156 (by kernel_rfl) (by kernel_rfl) (by kernel_rfl) (by kernel_rfl)
  have m1 := as_mAssign
  have a1 := as_assignE
  have a2 := as_assignF
  have t1 := as_typeOfE
  have t2 := as_typeOfF
  have v1 := as_valueOfE
  have q1 := ta_as
  have q2 := ta_un
  have q3 := m_un
  have q4 := eg_unw
  have hfl := World.block_lt_of_cell? _ _ hf
  have hal := World.block_lt_of_cell? _ _ ha
  have hf1 : (w.alloc (.cells #[hT 139, .pointer (some a), .int .u64 150] 160)).cell? ⟨fb, 0, none⟩ = some (.int .i64 e) := by rw [World.cell?_alloc_lt _ _ ⟨fb, 0, none⟩ hfl]; exact hf
  have ha1 : (w.alloc (.cells #[hT 139, .pointer (some a), .int .u64 150] 160)).cell? a = some (.pointer (some t)) := by rw [World.cell?_alloc_lt _ _ a hal]; exact ha
  have k1 := as_elemV a t _ ha1
  have htl := World.block_lt_of_cell? _ _ ht
  have st := as_set t ⟨w.heap.size + 1, 0, none⟩ e old ((w.alloc (.cells #[hT 139, .pointer (some a), .int .u64 150] 160)).alloc (.cells #[.int .i64 e] 28))
    (by rw [World.cell?_alloc_at _ _ _ _ (by simp)]; rfl)
    (by rw [World.cell?_alloc_lt _ _ t (by simp; omega), World.cell?_alloc_lt _ _ t htl]; exact ht)
    (by rw [World.frozen?_alloc_old _ _ t (by simp; omega), World.frozen?_alloc_old _ _ t (Nat.ne_of_lt htl)]; exact hft)
  have hT2 : ((w.alloc (.cells #[hT 139, .pointer (some a), .int .u64 150] 160)).alloc (.cells #[.int .i64 e] 28)).cell? t = some old := by rw [World.cell?_alloc_lt _ _ t (by simp; omega), World.cell?_alloc_lt _ _ t htl]; exact ht
  have hres : Hid (KX t.block w (((w.alloc (.cells #[hT 139, .pointer (some a), .int .u64 150] 160)).alloc (.cells #[.int .i64 e] 28)).setCell t (.int .i64 e)) ∧ (((w.alloc (.cells #[hT 139, .pointer (some a), .int .u64 150] 160)).alloc (.cells #[.int .i64 e] 28)).setCell t (.int .i64 e)).cell? t = some (.int .i64 e)) := by
    refine ⟨⟨rfl, rfl, rfl, by simp [World.setCell]; omega, fun k hk hb => ?_⟩, World.cell?_setCell_same' _ _ _ (by rw [hT2]; rfl)⟩
    rw [Below.heap_setCell _ _ _ _ hb, Below.heap_alloc _ _ _ (by simp; omega), Below.heap_alloc _ _ _ hk]
  clear hT2 ht hft
  go_enter Tryz.func141, Tryz.ntmps141
  go_wp2
  refine wp_loop_rounds 2 ?_
  rw [rounds_succ]
  go_wp2
  rw [rounds_succ]
  go_wp2
  go_ret
  exact ⟨rfl, hres.out⟩

set_option maxRecDepth 100000 in
set_option maxHeartbeats 2000000 in
theorem errAs (fb : Nat) (e : Int) (t : Addr) (old : Value) (w : World) (hg : w.cell? ⟨0, 0, none⟩ = some (.iface 183 (.agg #[hT 114]))) (hf : w.cell? ⟨fb, 0, none⟩ = some (.int .i64 e)) (ht : w.cell? t = some old) (hft : w.frozen? t = false) :
    Calls Tryz.prog 111 #[.iface 154 (.pointer (some ⟨fb, 0, none⟩)), .iface 139 (.pointer (some t))] w fun r w' => r = .returned (.bool true) ∧ KX t.block w w' ∧ w'.cell? t = some (.int .i64 e) := by
  have hX2 := @run_callFunc_extern Tryz.prog 139 _ (ReflectliteValue.methodAny (ReflectliteValue.valueError "reflectlite.Value.Type" 0) (fun t _ _ _ => ReflectliteType.toType t)) Tryz.func139 (by kernel_rfl) (by kernel_rfl) (by kernel_rfl) (by kernel_rfl)
  have hX3 := @run_callFunc_extern Tryz.prog 140 _ (ReflectliteValue.method (ReflectliteValue.valueError "reflectlite.Value.IsNil" 0) ReflectliteValue.isNil) Tryz.func140 (by kernel_rfl) (by kernel_rfl) (by kernel_rfl) (by kernel_rfl)
  have hX4 := @run_callFunc_extern Tryz.prog 138 _ (fun args => ReflectliteValue.unpack (args.getD 0 (.tuple #[]))) Tryz.func138 (by kernel_rfl) (by kernel_rfl) (by kernel_rfl) (by kernel_rfl)
  have hX5 := @run_callFunc_extern Tryz.prog 186 _ (ReflectliteType.abiMethod fun t => do pure (.int .u8 (← Rtype.kind t))) Tryz.func186 (by kernel_rfl) (by kernel_rfl) (by kernel_rfl) (by kernel_rfl)
  have hX6 := @run_callFunc_extern Tryz.prog 199 _ (ReflectliteType.method ReflectliteType.elem) Tryz.func199 (by kernel_rfl) (by kernel_rfl) (by kernel_rfl) (by kernel_rfl)
  have hX7 := @run_callFunc_extern Tryz.prog 200 _ (ReflectliteType.relation "Implements" ReflectliteType.implements_) Tryz.func200 (by kernel_rfl) (by kernel_rfl) (by kernel_rfl) (by kernel_rfl)
  have mK := as_mKind
  have mE := as_mElem
  have mI := as_mImpl
  have f1 := as_valueOf
  have f2 := as_type
  have f3 := as_kindP
  have f4 := as_kindE
  have f5 := as_elem
  have f6 := as_implements
  have hgl := World.block_lt_of_cell? _ _ hg
  have hfl := World.block_lt_of_cell? _ _ hf
  have htl := World.block_lt_of_cell? _ _ ht
  have hb2 : Below w.heap.size w ((w.alloc (.cells #[.pointer (some t)] 139)).alloc (.cells #[hT 139, .pointer (some ⟨w.heap.size, 0, none⟩), .int .u64 150] 160)) := ((Below.refl _ _).alloc (Nat.le_refl _) _).alloc (by simp) _
  have n8 := as_isNil ⟨w.heap.size, 0, none⟩ t ((w.alloc (.cells #[.pointer (some t)] 139)).alloc (.cells #[hT 139, .pointer (some ⟨w.heap.size, 0, none⟩), .int .u64 150] 160)) (by simp)
  have hg2 : ((w.alloc (.cells #[.pointer (some t)] 139)).alloc (.cells #[hT 139, .pointer (some ⟨w.heap.size, 0, none⟩), .int .u64 150] 160)).cell? ⟨0, 0, none⟩ = some (.iface 183 (.agg #[hT 114])) := (hb2.cell (p := ⟨0, 0, none⟩) hgl).trans hg
  have hL := Lib.hid (as_loop fb e t ⟨w.heap.size, 0, none⟩ ((w.alloc (.cells #[.pointer (some t)] 139)).alloc (.cells #[hT 139, .pointer (some ⟨w.heap.size, 0, none⟩), .int .u64 150] 160)) ((hb2.cell (p := ⟨fb, 0, none⟩) hfl).trans hf) (by simp) old ((hb2.cell (p := t) htl).trans ht) ((hb2.frozen (p := t) htl).trans hft))
  have hbH := Lib.hid hb2
  clear hf ht hft hg hb2
  go_enter Tryz.func111, Tryz.ntmps111
  go_wp2_with fail
  refine hL.out.mono ?_
  rintro r w1 ⟨rfl, hk, hc⟩
  have hK := (KX.of hbH.out).trans hk
  have hKH := Lib.hid (And.intro hK hc)
  clear hk hc hK hL
  go_wp2
  go_ret
  exact ⟨rfl, hKH.out⟩

/-- An error that wraps a number. -/
def Faulty (v : Value) (e : Int) (w : World) : Prop := ∃ fb : Nat, v = .iface 154 (.pointer (some ⟨fb, 0, none⟩)) ∧ w.cell? ⟨fb, 0, none⟩ = some (.int .i64 e)
/-- errors' own variable. -/
def ErrV (w : World) : Prop := w.cell? ⟨0, 0, none⟩ = some (.iface 183 (.agg #[hT 114]))
theorem ErrV.on {w w' : World} (h : ErrV w) (hb : Below w.heap.size w w') : ErrV w' := (hb.cell (p := ⟨0, 0, none⟩) (World.block_lt_of_cell? _ _ h)).trans h

set_option maxRecDepth 100000 in
set_option maxHeartbeats 2000000 in
theorem number_bad (v : Value) (e : Int) (w : World) (hE : ErrV w) (hv : Faulty v e w) :
    Calls Tryz.prog 76 #[v] w fun r w' => r = .returned (.int .i64 e) ∧ Below w.heap.size w w' := by
  obtain ⟨fb, rfl, hf⟩ := hv
  have hb1 : Below w.heap.size w (w.alloc (.cells #[.int .i64 0] 28)) := (Below.refl _ _).alloc (Nat.le_refl _) _
  have hfl := World.block_lt_of_cell? _ _ hf
  have hb : (w.alloc (.cells #[.int .i64 0] 28)).heap[w.heap.size]? = some (.cells #[.int .i64 0] 28 (0, 0)) := blk_new _ _
  have hA := Lib.hid (errAs fb e ⟨w.heap.size, 0, none⟩ (.int .i64 0) (w.alloc (.cells #[.int .i64 0] 28)) (hE.on hb1) ((hb1.cell (p := ⟨fb, 0, none⟩) hfl).trans hf) (blk_cell hb 0) (blk_frozen hb 0))
  have hb1H := Lib.hid hb1
  clear hb1 hf hb hE
  go_enter Tryz.func76, Tryz.ntmps76
  go_wp2_with fail
  refine hA.out.mono ?_
  rintro r w1 ⟨rfl, hk, hc⟩
  have hB := Lib.hid (hb1H.out.trans (hk.below (Nat.le_refl _) (by simp)))
  clear hk hA
  go_wp2
  go_ret
  exact ⟨rfl, hB.out⟩

theorem wrong_bad (e : Int) (w : World) (he : e ≠ 0) :
    Calls Tryz.prog 108 #[.int .i64 e] w fun r w' => ∃ v, r = .returned v ∧ Hid (Faulty v e w' ∧ Below w.heap.size w w') := by
  have hne : (e == 0) = false := by simpa using he
  clear he
  go_enter Tryz.func108, Tryz.ntmps108
  go_wp2
  go_ret
  exact ⟨_, rfl, ⟨w.heap.size, rfl, by go_simp⟩, (Below.refl _ _).alloc (Nat.le_refl _) _⟩

end Go.Proofs.YtkdejfedigiohaaGreatDoor

/- An item of a field's text: what is wrong with it. -/
namespace Go.Proofs.YtkdejfedigiohaaGreatDoor
open Go.RowKit Go.Proofs.YtkdejfedigiohaaGreatDoorW.PrintWords Go.Proofs.YtkdejfedigiohaaGreatDoorW.PrintLast Go.Proofs.YtkdejfedigiohaaGreatDoorW.PrintMore
set_option linter.unusedVariables false
set_option linter.unusedSimpArgs false


set_option maxRecDepth 100000 in
set_option maxHeartbeats 2000000 in
theorem split_bad (b n : Nat) (row : Array Value) (t a be : ByteArray) (cut : Bool) (kind : Int) (W : World) (hE : Env W) (h8 : 8 ≤ b) (hI : ItB W b t ⟨#[]⟩ ⟨#[]⟩ false (.slice none 0 0) kind 0 0 0) (hs : t.size < 4294967281)
    (hcut : Lib.cut t.data.toList [47] = (a.data.toList, be.data.toList, cut)) (ha : a.size < 4294967281) (hbe : be.size < 4294967281) (two : Bool) (hno : Lib.contains be.data.toList [47] = two)
    (hnn : Lib.countB a ⟨#[45]⟩ + 1 = n) (hrow : ((Lib.splitB ⟨#[45]⟩ 0 (Lib.countB a ⟨#[45]⟩) a).map Value.string).toArray = row)
    (hbad : two = true ∨ (two = false ∧ 2 < n) ∨ (two = false ∧ n ≤ 2 ∧ cut = true ∧ a.toList ≠ [42] ∧ n < 2)) :
    Calls Tryz.prog 73 #[.pointer (some ⟨b, 0, none⟩)] W fun r w' => ∃ v, r = .returned v ∧ Hid (Faulty v 2 w' ∧ KX b W w') := by
  have hlt := blk_lt hI
  obtain ⟨m, hm⟩ := hE.maxLen
  have hE0 := Lib.hid hE
  have hI0 := Lib.hid hI
  have hm0 := Lib.hid hm
  obtain ⟨⟨c0, c1, c2, c3, c4, c5, c6, c7, c8⟩, f0, f1, f2, f3, f4, f5, f6, f7, f8⟩ := hI.cells
  have hc := fun w => fun k => Lib.hid (Tryz.strings_Cut t ⟨#[47]⟩ m w hs k)
  simp only [hcut, ite_bytes] at hc
  have hnn0 := Lib.hid hnn
  have hrow0 := Lib.hid hrow
  have hbadH := Lib.hid hbad
  clear hbad
  clear hI hm hcut hnn hrow
  go_enter Tryz.func73, Tryz.ntmps73
  go_wp2_with fail
  refine (hc _ hm0.out).out.mono ?_
  rintro e w1 ⟨rfl, q, rfl⟩
  go_wp2_with fail
  generalize hW : (((W.drewN q).setCell ⟨b, 1, none⟩ (.string a)).setCell ⟨b, 2, none⟩ (.string be)).setCell ⟨b, 3, none⟩ (.bool cut) = W2
  have hK2 : KX b W W2 := by
    subst hW
    exact (((KX.of ((Below.refl W.heap.size W).drewN q)).trans (KX.set _ 1 _)).trans (KX.set _ 2 _)).trans (KX.set _ 3 _)
  have hI2 : ItB W2 b t a be cut (.slice none 0 0) kind 0 0 0 := by
    subst hW
    exact blk_put (blk_put (blk_put (blk_drewN hI0.out q) 1 _ rfl) 2 _ rfl) 3 _ rfl
  have hE2 := hE0.out.kx hK2 h8
  clear hW c0 c1 c2 c3 c4 c5 c6 c7 c8 f0 f1 f2 f3 f4 f5 f6 f7 f8
  obtain ⟨m2, hm2⟩ := hE2.maxLen
  have hsp := Tryz.strings_Split a ⟨#[45]⟩ m2 W2 ha hm2 (by decide)
  rw [hnn0.out, hrow0.out] at hsp
  refine hsp.mono ?_
  clear hsp
  rintro e w1 ⟨rfl, rfl⟩
  have hI3 : ItB (W2.alloc (.cells row 9)) b t a be cut (.slice none 0 0) kind 0 0 0 := blk_alloc hI2 _
  have hg3 : (W2.alloc (.cells row 9)).heap[W2.heap.size]? = some (.cells row 9 (0, 0)) := blk_new _ _
  have hK3 : KX b W (W2.alloc (.cells row 9)) := hK2.trans (KX.alloc _ _)
  have hbne : W2.heap.size ≠ b := by have := hK2.size; omega
  have hle := hK2.size
  generalize W2.alloc (.cells row 9) = W3 at *
  obtain ⟨⟨c0, c1, c2, c3, c4, c5, c6, c7, c8⟩, f0, f1, f2, f3, f4, f5, f6, f7, f8⟩ := hI3.cells
  go_wp2_with fail
  generalize hW : W3.setCell ⟨b, 4, none⟩ (.slice (some ⟨W2.heap.size, 0, none⟩) n n) = W4
  have hK4 : KX b W W4 := by subst hW; exact hK3.trans (KX.set _ 4 _)
  have hI4 : ItB W4 b t a be cut (.slice (some ⟨W2.heap.size, 0, none⟩) n n) kind 0 0 0 := by subst hW; exact blk_put hI3 4 _ rfl
  have hg4 : W4.heap[W2.heap.size]? = some (.cells row 9 (0, 0)) := by subst hW; exact blk_far hg3 hbne _
  have hE4 := hE0.out.kx hK4 h8
  clear hW c0 c1 c2 c3 c4 c5 c6 c7 c8 f0 f1 f2 f3 f4 f5 f6 f7 f8 hm2
  obtain ⟨m4, hm4⟩ := hE4.maxLen
  have hct := Tryz.strings_Contains be ⟨#[47]⟩ m4 W4 hbe hm4
  rw [hno] at hct
  refine hct.mono ?_
  clear hct hno hm4
  rintro e w1 ⟨rfl, rfl⟩
  obtain ⟨⟨c0, c1, c2, c3, c4, c5, c6, c7, c8⟩, f0, f1, f2, f3, f4, f5, f6, f7, f8⟩ := hI4.cells
  have hK4H := Lib.hid hK4
  clear hK4 hK3 hK2 hI4 hg4
  have hbad := hbadH.out
  clear hbadH
  rcases hbad with rfl | ⟨rfl, hn⟩ | ⟨rfl, hn, rfl, hst, hn2⟩
  · go_wp2_with fail
    refine (wrong_bad 2 _ (by decide)).mono ?_
    rintro r w5 ⟨v, rfl, hv⟩
    have hF := Lib.hid (And.intro hv.out.1 (hK4H.out.trans (KX.of hv.out.2)))
    clear hv hK4H
    go_wp2
    go_ret
    exact ⟨_, rfl, hF.out⟩
  · have hn' : (2 : Int) < (n : Int) := by omega
    go_wp2_with fail
    refine (wrong_bad 2 _ (by decide)).mono ?_
    rintro r w5 ⟨v, rfl, hv⟩
    have hF := Lib.hid (And.intro hv.out.1 (hK4H.out.trans (KX.of hv.out.2)))
    clear hv hK4H
    go_wp2
    go_ret
    exact ⟨_, rfl, hF.out⟩
  · have hn' : (n : Int) ≤ 2 := by omega
    have hn3 : (n : Int) < 2 := by omega
    have hst' : (a.toList == [42]) = false := by simpa using hst
    have hst2 : (a.toList != [42]) = true := by simpa using hst
    clear hst
    go_wp2_with fail
    refine (wrong_bad 2 _ (by decide)).mono ?_
    rintro r w5 ⟨v, rfl, hv⟩
    have hF := Lib.hid (And.intro hv.out.1 (hK4H.out.trans (KX.of hv.out.2)))
    clear hv hK4H
    go_wp2
    go_ret
    exact ⟨_, rfl, hF.out⟩

/-- What lex.Value answers at s. -/
def ValR (s : ByteArray) (kind v e : Int) : Prop :=
  ∀ w : World, Calls Tryz.prog 109 #[.string s, .int .i64 kind] w fun r w' => r = .returned (.tuple #[.int .i64 v, .int .i64 e]) ∧ Below w.heap.size w w'

set_option maxRecDepth 100000 in
set_option maxHeartbeats 2000000 in
theorem values_e0 (b g n : Nat) (t a be e0 : ByteArray) (cut : Bool) (kind v er : Int) (W : World) (h0 : 0 ≤ kind) (h1 : kind ≤ 4) (hn : 1 ≤ n) (her : er ≠ 0)
    (hI : ItB W b t a be cut (.slice (some ⟨g, 0, none⟩) n n) kind 0 0 0) (d0 : W.cell? ⟨g, 0, none⟩ = some (.string e0)) (hgb : g ≠ b) (hst : a.toList ≠ [42]) (hv : ValR e0 kind v er) :
    Calls Tryz.prog 74 #[.pointer (some ⟨b, 0, none⟩)] W fun r w' => ∃ v, r = .returned v ∧ Hid (Faulty v er w' ∧ KX b W w') := by
  have hI0 := Lib.hid hI
  have hlb := blk_lt hI
  have hlg := World.block_lt_of_cell? _ _ d0
  obtain ⟨⟨c0, c1, c2, c3, c4, c5, c6, c7, c8⟩, f0, f1, f2, f3, f4, f5, f6, f7, f8⟩ := hI.cells
  have hst' : (a.toList == [42]) = false := by simpa using hst
  have hv := Lib.hid hv
  have hne : (er != 0) = true := by simpa using her
  have herH := Lib.hid her
  have hn' : (0 : Int) < (n : Int) := by omega
  have hn2 : 0 < n := hn
  clear hI hst her
  go_enter Tryz.func74, Tryz.ntmps74
  go_wp2_with fail
  refine (limits_q kind _ h0 h1).mono ?_
  rintro e w1 ⟨rfl, rfl⟩
  go_wp2
  refine wp_loop_rounds 1 ?_
  rw [rounds_succ]
  go_wp2_with fail
  generalize hW : ((W.setCell ⟨b, 6, none⟩ (.int .i64 (lexLo kind))).setCell ⟨b, 7, none⟩ (.int .i64 (lexHi kind))).alloc (.cells #[.int .i64 0, .int .i64 0] 135) = W2
  have hK2 : KX b W W2 := by subst hW; exact ((KX.set _ 6 _).trans (KX.set _ 7 _)).trans (KX.alloc _ _)
  clear hW c0 c1 c2 c3 c4 c5 c6 c7 c8 f0 f1 f2 f3 f4 f5 f6 f7 f8 d0
  refine (hv.out _).mono ?_
  rintro e w1 ⟨rfl, hb3⟩
  have hK3 := hK2.trans (KX.of hb3)
  have hK3H := Lib.hid hK3
  clear hK3 hK2 hb3
  go_wp2_with fail
  refine (wrong_bad er _ herH.out).mono ?_
  rintro r w5 ⟨v, rfl, hv⟩
  have hF := Lib.hid (And.intro hv.out.1 (hK3H.out.trans (KX.of hv.out.2)))
  clear hv hK3H
  go_wp2
  go_ret
  exact ⟨_, rfl, hF.out⟩

set_option maxRecDepth 100000 in
set_option maxHeartbeats 2000000 in
theorem values_e1 (b g : Nat) (t a be e0 e1 : ByteArray) (cut : Bool) (kind v v2 er : Int) (W : World) (h0 : 0 ≤ kind) (h1 : kind ≤ 4)
    (hI : ItB W b t a be cut (.slice (some ⟨g, 0, none⟩) 2 2) kind 0 0 0) (hg : W.heap[g]? = some (.cells #[.string e0, .string e1] 9 (0, 0))) (hgb : g ≠ b) (hst : a.toList ≠ [42]) (hv : ValIs e0 kind v) (hv2 : ValR e1 kind v2 er) (her : er ≠ 0) :
    Calls Tryz.prog 74 #[.pointer (some ⟨b, 0, none⟩)] W fun r w' => ∃ v, r = .returned v ∧ Hid (Faulty v er w' ∧ KX b W w') := by
  have hI0 := Lib.hid hI
  have hlb := blk_lt hI
  have hlg := blk_lt hg
  have hg0 := Lib.hid hg
  obtain ⟨⟨c0, c1, c2, c3, c4, c5, c6, c7, c8⟩, f0, f1, f2, f3, f4, f5, f6, f7, f8⟩ := hI.cells
  have d0 : W.cell? ⟨g, 0, none⟩ = some (.string e0) := blk_cell hg 0
  have hst' : (a.toList == [42]) = false := by simpa using hst
  have hv := Lib.hid hv
  have hv2 := Lib.hid hv2
  have hne : (er != 0) = true := by simpa using her
  have herH := Lib.hid her
  clear hI hst hg her
  go_enter Tryz.func74, Tryz.ntmps74
  go_wp2_with fail
  refine (limits_q kind _ h0 h1).mono ?_
  rintro e w1 ⟨rfl, rfl⟩
  go_wp2
  refine wp_loop_rounds 3 ?_
  rw [rounds_succ]
  go_wp2_with fail
  generalize hW : ((W.setCell ⟨b, 6, none⟩ (.int .i64 (lexLo kind))).setCell ⟨b, 7, none⟩ (.int .i64 (lexHi kind))).alloc (.cells #[.int .i64 0, .int .i64 0] 135) = W2
  have hK2 : KX b W W2 := by subst hW; exact ((KX.set _ 6 _).trans (KX.set _ 7 _)).trans (KX.alloc _ _)
  have hI2 : ItB W2 b t a be cut (.slice (some ⟨g, 0, none⟩) 2 2) kind (lexLo kind) (lexHi kind) 0 := by subst hW; exact blk_alloc (blk_put (blk_put hI0.out 6 _ rfl) 7 _ rfl) _
  have hB2 : W2.heap[W.heap.size]? = some (.cells #[.int .i64 0, .int .i64 0] 135 (0, 0)) := by subst hW; exact blk_new2 _ W _ (by simp [World.setCell])
  clear hW c0 c1 c2 c3 c4 c5 c6 c7 c8 f0 f1 f2 f3 f4 f5 f6 f7 f8 d0
  refine (hv.out _).mono ?_
  rintro e w1 ⟨rfl, hb3⟩
  have hK3 := hK2.trans (KX.of hb3)
  have hI3 : ItB w1 b t a be cut (.slice (some ⟨g, 0, none⟩) 2 2) kind (lexLo kind) (lexHi kind) 0 := blk_below hI2 hb3
  have hB3 := blk_below hB2 hb3
  have hlt3 : W.heap.size < w1.heap.size := blk_lt hB3
  clear hI2 hB2 hb3
  obtain ⟨⟨c0, c1, c2, c3, c4, c5, c6, c7, c8⟩, f0, f1, f2, f3, f4, f5, f6, f7, f8⟩ := hI3.cells
  have b0 : w1.cell? ⟨W.heap.size, 0, none⟩ = some (.int .i64 0) := blk_cell hB3 0
  have b1 : w1.cell? ⟨W.heap.size, 1, none⟩ = some (.int .i64 0) := blk_cell hB3 1
  have g0 := blk_frozen hB3 0
  have g1 := blk_frozen hB3 1
  have hI3 := Lib.hid hI3
  have hB3 := Lib.hid hB3
  go_wp2
  rw [rounds_succ]
  have hne : b ≠ W.heap.size := by omega
  have hng : g ≠ W.heap.size := by omega
  have d1 : ((w1.setCell ⟨W.heap.size, 0, none⟩ (.int .i64 v)).setCell ⟨W.heap.size, 1, none⟩ (.int .i64 v)).cell? ⟨g, 1, none⟩ = some (.string e1) :=
    blk_cell (blk_far (blk_far (hK3.blk hg0.out hgb) hng _) hng _) 1
  generalize hW : (w1.setCell ⟨W.heap.size, 0, none⟩ (.int .i64 v)).setCell ⟨W.heap.size, 1, none⟩ (.int .i64 v) = W4 at d1 ⊢
  have hK4 : ∀ k, k < W.heap.size → k ≠ b → W4.heap[k]? = W.heap[k]? := fun k h1 h2 => by
    subst hW
    rw [Below.heap_setCell _ _ _ _ (by show k ≠ W.heap.size; omega), Below.heap_setCell _ _ _ _ (by show k ≠ W.heap.size; omega)]
    exact hK3.block k h1 h2
  have hX4 : KX b W W4 := ⟨by subst hW; exact hK3.os, by subst hW; exact hK3.tape, by subst hW; exact hK3.output, by subst hW; simp only [World.setCell, Array.size_modify]; exact hK3.size, hK4⟩
  have hI4 : ItB W4 b t a be cut (.slice (some ⟨g, 0, none⟩) 2 2) kind (lexLo kind) (lexHi kind) 0 := by subst hW; exact blk_far (blk_far hI3.out hne _) hne _
  have hB4 : W4.heap[W.heap.size]? = some (.cells #[.int .i64 v, .int .i64 v] 135 (0, 0)) := by subst hW; exact blk_put (blk_put hB3.out 0 _ rfl) 1 _ rfl
  clear hW c0 c1 c2 c3 c4 c5 c6 c7 c8 f0 f1 f2 f3 f4 f5 f6 f7 f8 b0 b1 g0 g1 hK4 hK3 hI3 hB3
  obtain ⟨⟨c0, c1, c2, c3, c4, c5, c6, c7, c8⟩, f0, f1, f2, f3, f4, f5, f6, f7, f8⟩ := hI4.cells
  go_wp2_with fail
  refine (hv2.out _).mono ?_
  rintro e w5 ⟨rfl, hb5⟩
  have hX9H := Lib.hid (hX4.trans (KX.of hb5))
  clear hI4 hB4 hb5 hX4 c0 c1 c2 c3 c4 c5 c6 c7 c8 f0 f1 f2 f3 f4 f5 f6 f7 f8 d1
  go_wp2_with fail
  refine (wrong_bad er _ herH.out).mono ?_
  rintro r w8 ⟨u, rfl, hv⟩
  have hF := Lib.hid (And.intro hv.out.1 (hX9H.out.trans (KX.of hv.out.2)))
  clear hv hX9H
  go_wp2
  go_ret
  exact ⟨_, rfl, hF.out⟩

set_option maxRecDepth 100000 in
set_option maxHeartbeats 2000000 in
theorem values_ord (b g : Nat) (t a be e0 e1 : ByteArray) (cut : Bool) (kind v v2 : Int) (W : World) (h0 : 0 ≤ kind) (h1 : kind ≤ 4)
    (hI : ItB W b t a be cut (.slice (some ⟨g, 0, none⟩) 2 2) kind 0 0 0) (hg : W.heap[g]? = some (.cells #[.string e0, .string e1] 9 (0, 0))) (hgb : g ≠ b) (hst : a.toList ≠ [42]) (hv : ValIs e0 kind v) (hv2 : ValIs e1 kind v2) (hord : v2 < v) :
    Calls Tryz.prog 74 #[.pointer (some ⟨b, 0, none⟩)] W fun r w' => ∃ v, r = .returned v ∧ Hid (Faulty v 12 w' ∧ KX b W w') := by
  have hI0 := Lib.hid hI
  have hlb := blk_lt hI
  have hlg := blk_lt hg
  have hg0 := Lib.hid hg
  obtain ⟨⟨c0, c1, c2, c3, c4, c5, c6, c7, c8⟩, f0, f1, f2, f3, f4, f5, f6, f7, f8⟩ := hI.cells
  have d0 : W.cell? ⟨g, 0, none⟩ = some (.string e0) := blk_cell hg 0
  have hst' : (a.toList == [42]) = false := by simpa using hst
  have hv := Lib.hid hv
  have hv2 := Lib.hid hv2
  clear hI hst hg
  go_enter Tryz.func74, Tryz.ntmps74
  go_wp2_with fail
  refine (limits_q kind _ h0 h1).mono ?_
  rintro e w1 ⟨rfl, rfl⟩
  go_wp2
  refine wp_loop_rounds 3 ?_
  rw [rounds_succ]
  go_wp2_with fail
  generalize hW : ((W.setCell ⟨b, 6, none⟩ (.int .i64 (lexLo kind))).setCell ⟨b, 7, none⟩ (.int .i64 (lexHi kind))).alloc (.cells #[.int .i64 0, .int .i64 0] 135) = W2
  have hK2 : KX b W W2 := by subst hW; exact ((KX.set _ 6 _).trans (KX.set _ 7 _)).trans (KX.alloc _ _)
  have hI2 : ItB W2 b t a be cut (.slice (some ⟨g, 0, none⟩) 2 2) kind (lexLo kind) (lexHi kind) 0 := by subst hW; exact blk_alloc (blk_put (blk_put hI0.out 6 _ rfl) 7 _ rfl) _
  have hB2 : W2.heap[W.heap.size]? = some (.cells #[.int .i64 0, .int .i64 0] 135 (0, 0)) := by subst hW; exact blk_new2 _ W _ (by simp [World.setCell])
  clear hW c0 c1 c2 c3 c4 c5 c6 c7 c8 f0 f1 f2 f3 f4 f5 f6 f7 f8 d0
  refine (hv.out _).mono ?_
  rintro e w1 ⟨rfl, hb3⟩
  have hK3 := hK2.trans (KX.of hb3)
  have hI3 : ItB w1 b t a be cut (.slice (some ⟨g, 0, none⟩) 2 2) kind (lexLo kind) (lexHi kind) 0 := blk_below hI2 hb3
  have hB3 := blk_below hB2 hb3
  have hlt3 : W.heap.size < w1.heap.size := blk_lt hB3
  clear hI2 hB2 hb3
  obtain ⟨⟨c0, c1, c2, c3, c4, c5, c6, c7, c8⟩, f0, f1, f2, f3, f4, f5, f6, f7, f8⟩ := hI3.cells
  have b0 : w1.cell? ⟨W.heap.size, 0, none⟩ = some (.int .i64 0) := blk_cell hB3 0
  have b1 : w1.cell? ⟨W.heap.size, 1, none⟩ = some (.int .i64 0) := blk_cell hB3 1
  have g0 := blk_frozen hB3 0
  have g1 := blk_frozen hB3 1
  have hI3 := Lib.hid hI3
  have hB3 := Lib.hid hB3
  go_wp2
  rw [rounds_succ]
  have hne : b ≠ W.heap.size := by omega
  have hng : g ≠ W.heap.size := by omega
  have d1 : ((w1.setCell ⟨W.heap.size, 0, none⟩ (.int .i64 v)).setCell ⟨W.heap.size, 1, none⟩ (.int .i64 v)).cell? ⟨g, 1, none⟩ = some (.string e1) :=
    blk_cell (blk_far (blk_far (hK3.blk hg0.out hgb) hng _) hng _) 1
  generalize hW : (w1.setCell ⟨W.heap.size, 0, none⟩ (.int .i64 v)).setCell ⟨W.heap.size, 1, none⟩ (.int .i64 v) = W4 at d1 ⊢
  have hK4 : ∀ k, k < W.heap.size → k ≠ b → W4.heap[k]? = W.heap[k]? := fun k h1 h2 => by
    subst hW
    rw [Below.heap_setCell _ _ _ _ (by show k ≠ W.heap.size; omega), Below.heap_setCell _ _ _ _ (by show k ≠ W.heap.size; omega)]
    exact hK3.block k h1 h2
  have hX4 : KX b W W4 := ⟨by subst hW; exact hK3.os, by subst hW; exact hK3.tape, by subst hW; exact hK3.output, by subst hW; simp only [World.setCell, Array.size_modify]; exact hK3.size, hK4⟩
  have hI4 : ItB W4 b t a be cut (.slice (some ⟨g, 0, none⟩) 2 2) kind (lexLo kind) (lexHi kind) 0 := by subst hW; exact blk_far (blk_far hI3.out hne _) hne _
  have hB4 : W4.heap[W.heap.size]? = some (.cells #[.int .i64 v, .int .i64 v] 135 (0, 0)) := by subst hW; exact blk_put (blk_put hB3.out 0 _ rfl) 1 _ rfl
  clear hW c0 c1 c2 c3 c4 c5 c6 c7 c8 f0 f1 f2 f3 f4 f5 f6 f7 f8 b0 b1 g0 g1 hK4 hK3 hI3 hB3
  obtain ⟨⟨c0, c1, c2, c3, c4, c5, c6, c7, c8⟩, f0, f1, f2, f3, f4, f5, f6, f7, f8⟩ := hI4.cells
  go_wp2_with fail
  refine (hv2.out _).mono ?_
  rintro e w5 ⟨rfl, hb5⟩
  have hX5 := hX4.trans (KX.of hb5)
  have hI5 : ItB w5 b t a be cut (.slice (some ⟨g, 0, none⟩) 2 2) kind (lexLo kind) (lexHi kind) 0 := blk_below hI4 hb5
  have hB5 := blk_below hB4 hb5
  have hlt5 : W.heap.size < w5.heap.size := blk_lt hB5
  clear hI4 hB4 hb5 hX4 c0 c1 c2 c3 c4 c5 c6 c7 c8 f0 f1 f2 f3 f4 f5 f6 f7 f8 d1
  obtain ⟨⟨c0, c1, c2, c3, c4, c5, c6, c7, c8⟩, f0, f1, f2, f3, f4, f5, f6, f7, f8⟩ := hI5.cells
  have b0 : w5.cell? ⟨W.heap.size, 0, none⟩ = some (.int .i64 v) := blk_cell hB5 0
  have b1 : w5.cell? ⟨W.heap.size, 1, none⟩ = some (.int .i64 v) := blk_cell hB5 1
  have g0 := blk_frozen hB5 0
  have g1 := blk_frozen hB5 1
  have hI5 := Lib.hid hI5
  have hB5 := Lib.hid hB5
  go_wp2
  rw [rounds_succ]
  go_wp2
  generalize hW : (w5.setCell ⟨W.heap.size, 1, none⟩ (.int .i64 v2)).setCell ⟨W.heap.size, 1, none⟩ (.int .i64 v2) = W6
  have hK6 : ∀ k, k < W.heap.size → k ≠ b → W6.heap[k]? = W.heap[k]? := fun k h1 h2 => by
    subst hW
    rw [Below.heap_setCell _ _ _ _ (by show k ≠ W.heap.size; omega), Below.heap_setCell _ _ _ _ (by show k ≠ W.heap.size; omega)]
    exact hX5.block k h1 h2
  have hX6 : KX b W W6 := ⟨by subst hW; exact hX5.os, by subst hW; exact hX5.tape, by subst hW; exact hX5.output, by subst hW; simp only [World.setCell, Array.size_modify]; exact hX5.size, hK6⟩
  have hI6 : ItB W6 b t a be cut (.slice (some ⟨g, 0, none⟩) 2 2) kind (lexLo kind) (lexHi kind) 0 := by subst hW; exact blk_far (blk_far hI5.out hne _) hne _
  have hB6 : W6.heap[W.heap.size]? = some (.cells #[.int .i64 v, .int .i64 v2] 135 (0, 0)) := by subst hW; exact blk_put (blk_put hB5.out 1 _ rfl) 1 _ rfl
  clear hW c0 c1 c2 c3 c4 c5 c6 c7 c8 f0 f1 f2 f3 f4 f5 f6 f7 f8 b0 b1 g0 g1 hK6 hX5 hI5 hB5
  obtain ⟨⟨c0, c1, c2, c3, c4, c5, c6, c7, c8⟩, f0, f1, f2, f3, f4, f5, f6, f7, f8⟩ := hI6.cells
  have b0 : W6.cell? ⟨W.heap.size, 0, none⟩ = some (.int .i64 v) := blk_cell hB6 0
  have b1 : W6.cell? ⟨W.heap.size, 1, none⟩ = some (.int .i64 v2) := blk_cell hB6 1
  have hI6 := Lib.hid hI6
  have hB6 := Lib.hid hB6
  go_region
  go_wp2
  generalize hW : ((W6.setCell ⟨b, 6, none⟩ (.int .i64 v)).setCell ⟨b, 7, none⟩ (.int .i64 v2)).drew = W7
  have hX7 : KX b W W7 := by subst hW; exact ((hX6.trans (KX.set _ 6 _)).trans (KX.set _ 7 _)).trans (KX.of (Below.refl _ _).drew)
  have hI7 : ItB W7 b t a be cut (.slice (some ⟨g, 0, none⟩) 2 2) kind v v2 0 := by subst hW; exact blk_drew (blk_put (blk_put hI6.out 6 _ rfl) 7 _ rfl)
  clear hW c0 c1 c2 c3 c4 c5 c6 c7 c8 f0 f1 f2 f3 f4 f5 f6 f7 f8 b0 b1
  obtain ⟨⟨c0, c1, c2, c3, c4, c5, c6, c7, c8⟩, f0, f1, f2, f3, f4, f5, f6, f7, f8⟩ := hI7.cells
  have hI7 := Lib.hid hI7
  go_quiet (fail)
  have hX9H := Lib.hid (hX7.trans (KX.of ((Below.refl W7.heap.size W7).drewN (by assumption))))
  go_wp2_with fail
  refine (wrong_bad 12 _ (by decide)).mono ?_
  rintro r w8 ⟨u, rfl, hv⟩
  have hF := Lib.hid (And.intro hv.out.1 (hX9H.out.trans (KX.of hv.out.2)))
  clear hv hX9H
  go_wp2
  go_ret
  exact ⟨_, rfl, hF.out⟩

set_option maxRecDepth 100000 in
set_option maxHeartbeats 2000000 in
theorem step_bad (b : Nat) (t a be : ByteArray) (ends : Value) (kind lo hi n er e2 : Int) (W : World) (hI : ItB W b t a be true ends kind lo hi 0) (hn : numL be.data.toList = (n, er)) (hc : (er ≠ 0 ∧ e2 = er) ∨ (er = 0 ∧ n = 0 ∧ e2 = 1)) :
    Calls Tryz.prog 75 #[.pointer (some ⟨b, 0, none⟩)] W fun r w' => ∃ v, r = .returned v ∧ Hid (Faulty v e2 w' ∧ KX b W w') := by
  have hI0 := Lib.hid hI
  have hlb := blk_lt hI
  obtain ⟨⟨c0, c1, c2, c3, c4, c5, c6, c7, c8⟩, f0, f1, f2, f3, f4, f5, f6, f7, f8⟩ := hI.cells
  have hnum := number_any be
  rw [hn] at hnum
  have hnum := fun w => Lib.hid (hnum w)
  have hcH := Lib.hid hc
  clear hI hn hc
  go_enter Tryz.func75, Tryz.ntmps75
  go_wp2_with fail
  generalize hW : W.setCell ⟨b, 8, none⟩ (.int .i64 1) = W2
  have hK2 : KX b W W2 := by subst hW; exact KX.set _ 8 _
  have hI2 : ItB W2 b t a be true ends kind lo hi 1 := by subst hW; exact blk_put hI0.out 8 _ rfl
  clear hW c0 c1 c2 c3 c4 c5 c6 c7 c8 f0 f1 f2 f3 f4 f5 f6 f7 f8
  refine (hnum _).out.mono ?_
  rintro e w1 ⟨rfl, hb⟩
  have hK3 := hK2.trans (KX.of hb)
  have hI3 : ItB w1 b t a be true ends kind lo hi 1 := blk_below hI2 hb
  clear hb hI2
  obtain ⟨⟨c0, c1, c2, c3, c4, c5, c6, c7, c8⟩, f0, f1, f2, f3, f4, f5, f6, f7, f8⟩ := hI3.cells
  have hK4H := Lib.hid (hK3.trans (KX.set w1 8 (.int .i64 n)))
  clear hI3 hK3 hK2
  have hc := hcH.out
  clear hcH
  rcases hc with ⟨hne, rfl⟩ | ⟨rfl, rfl, rfl⟩
  · have hb : (e2 == 0) = false := by simpa using hne
    have hneH := Lib.hid hne
    clear hne
    go_wp2_with fail
    refine (wrong_bad e2 _ hneH.out).mono ?_
    rintro r w8 ⟨u, rfl, hv⟩
    have hF := Lib.hid (And.intro hv.out.1 (hK4H.out.trans (KX.of hv.out.2)))
    clear hv hK4H
    go_wp2
    go_ret
    exact ⟨_, rfl, hF.out⟩
  · go_wp2_with fail
    refine (wrong_bad 1 _ (by decide)).mono ?_
    rintro r w8 ⟨u, rfl, hv⟩
    have hF := Lib.hid (And.intro hv.out.1 (hK4H.out.trans (KX.of hv.out.2)))
    clear hv hK4H
    go_wp2
    go_ret
    exact ⟨_, rfl, hF.out⟩

end Go.Proofs.YtkdejfedigiohaaGreatDoor

/- lex.Name where there is no name; lex.Value at whatever text. -/
namespace Go.Proofs.YtkdejfedigiohaaGreatDoor
open Go.RowKit Go.Proofs.YtkdejfedigiohaaGreatDoorW.PrintWords Go.Proofs.YtkdejfedigiohaaGreatDoorW.PrintLast Go.Proofs.YtkdejfedigiohaaGreatDoorW.PrintMore
set_option linter.unusedVariables false
set_option linter.unusedSimpArgs false


set_option maxRecDepth 100000 in
set_option maxHeartbeats 2000000 in
theorem name_few (x y z : UInt8) (kind : Int) (w : World) (hk0 : 0 ≤ kind) (hk : kind ≤ 2) :
    Calls Tryz.prog 135 #[.string ⟨#[x, y, z]⟩, .int .i64 kind] w fun e w' => e = .returned (.tuple #[.int .i64 0, .int .i64 2]) ∧ Below w.heap.size w w' := by
  have hk3 : (kind == 3) = false := by rw [beq_eq_false_iff_ne]; omega
  have hk4 : (kind == 4) = false := by rw [beq_eq_false_iff_ne]; omega
  have hcv := fun W => conv_q ⟨#[x, y, z]⟩ W
  have hL := low_new w x y z
  have hbW := Lib.bytesWorld_below w 5 ⟨#[x, y, z]⟩
  have hx : 0 ≤ (x.toNat : Int) ∧ (x.toNat : Int) < 256 := ⟨by omega, by have := x.toNat_lt; omega⟩
  have hy : 0 ≤ (y.toNat : Int) ∧ (y.toNat : Int) < 256 := ⟨by omega, by have := y.toNat_lt; omega⟩
  have hz : 0 ≤ (z.toNat : Int) ∧ (z.toNat : Int) < 256 := ⟨by omega, by have := z.toNat_lt; omega⟩
  generalize (x.toNat : Int) = xi at *
  generalize (y.toNat : Int) = yi at *
  generalize (z.toNat : Int) = zi at *
  go_enter Tryz.func135, Tryz.ntmps135
  go_wp2
  generalize Lib.bytesWorld w 5 ⟨#[x, y, z]⟩ = W1 at *
  clear hcv
  go_loopg [24] 3 (fun g v24 W' => ∃ i : Nat, i + g = 3 ∧ v24 = .int .i64 i ∧ (∃ a b c, Hid (lows xi yi zi i a b c) ∧ Hid (LowB a b c W' w.heap.size)) ∧ Below w.heap.size w W')
  case atStart => exact ⟨0, rfl, rfl, ⟨xi, yi, zi, .inl ⟨rfl, rfl, rfl, rfl⟩, hL⟩, hbW⟩
  case round =>
    obtain ⟨i, hi, rfl, ⟨a, b, c, hl, hLB⟩, hB⟩ := hrel
    obtain ⟨⟨l0, l1, l2⟩, z0, z1, z2⟩ := hLB.out
    obtain rfl | rfl | rfl | rfl : i = 0 ∨ i = 1 ∨ i = 2 ∨ i = 3 := by omega
    · have hl2 := Lib.hid (lows0 hl.out)
      clear hl
      cases h1 : decide (65 ≤ a) <;> cases h2 : decide (a ≤ 90)
      · rw [lo8_no1 h1] at hl2
        go_wp2
        go_roundg (gk - 1)
        case measure => omega
        case rel => exact ⟨1, by omega, rfl, ⟨a, b, c, hl2, hLB⟩, hB⟩
      · rw [lo8_no1 h1] at hl2
        go_wp2
        go_roundg (gk - 1)
        case measure => omega
        case rel => exact ⟨1, by omega, rfl, ⟨a, b, c, hl2, hLB⟩, hB⟩
      · rw [lo8_no2 h2] at hl2
        go_wp2
        go_roundg (gk - 1)
        case measure => omega
        case rel => exact ⟨1, by omega, rfl, ⟨a, b, c, hl2, hLB⟩, hB⟩
      · rw [lo8_up h1 h2] at hl2
        have hLB2 := fun v => Lib.hid (hLB.out.set0 v)
        go_wp2
        go_roundg (gk - 1)
        case measure => omega
        case rel => exact ⟨1, by omega, rfl, ⟨_, _, _, hl2, hLB2 _⟩, hB.setCell (p := ⟨w.heap.size, 0, none⟩) (Nat.le_refl _) _⟩
    · have hl2 := Lib.hid (lows1 hl.out)
      clear hl
      cases h1 : decide (65 ≤ b) <;> cases h2 : decide (b ≤ 90)
      · rw [lo8_no1 h1] at hl2
        go_wp2
        go_roundg (gk - 1)
        case measure => omega
        case rel => exact ⟨2, by omega, rfl, ⟨a, b, c, hl2, hLB⟩, hB⟩
      · rw [lo8_no1 h1] at hl2
        go_wp2
        go_roundg (gk - 1)
        case measure => omega
        case rel => exact ⟨2, by omega, rfl, ⟨a, b, c, hl2, hLB⟩, hB⟩
      · rw [lo8_no2 h2] at hl2
        go_wp2
        go_roundg (gk - 1)
        case measure => omega
        case rel => exact ⟨2, by omega, rfl, ⟨a, b, c, hl2, hLB⟩, hB⟩
      · rw [lo8_up h1 h2] at hl2
        have hLB2 := fun v => Lib.hid (hLB.out.set1 v)
        go_wp2
        go_roundg (gk - 1)
        case measure => omega
        case rel => exact ⟨2, by omega, rfl, ⟨_, _, _, hl2, hLB2 _⟩, hB.setCell (p := ⟨w.heap.size, 1, none⟩) (Nat.le_refl _) _⟩
    · have hl2 := Lib.hid (lows2 hl.out)
      clear hl
      cases h1 : decide (65 ≤ c) <;> cases h2 : decide (c ≤ 90)
      · rw [lo8_no1 h1] at hl2
        go_wp2
        go_roundg (gk - 1)
        case measure => omega
        case rel => exact ⟨3, by omega, rfl, ⟨a, b, c, hl2, hLB⟩, hB⟩
      · rw [lo8_no1 h1] at hl2
        go_wp2
        go_roundg (gk - 1)
        case measure => omega
        case rel => exact ⟨3, by omega, rfl, ⟨a, b, c, hl2, hLB⟩, hB⟩
      · rw [lo8_no2 h2] at hl2
        go_wp2
        go_roundg (gk - 1)
        case measure => omega
        case rel => exact ⟨3, by omega, rfl, ⟨a, b, c, hl2, hLB⟩, hB⟩
      · rw [lo8_up h1 h2] at hl2
        have hLB2 := fun v => Lib.hid (hLB.out.set2 v)
        go_wp2
        go_roundg (gk - 1)
        case measure => omega
        case rel => exact ⟨3, by omega, rfl, ⟨_, _, _, hl2, hLB2 _⟩, hB.setCell (p := ⟨w.heap.size, 2, none⟩) (Nat.le_refl _) _⟩
    · obtain ⟨rfl, rfl, rfl⟩ := lows3 hl.out
      clear hl
      go_wp2
      refine wp_loop_rounds 1 ?_
      rw [rounds_succ]
      have hnx : ∀ ty, (Instr.next (.pointer (some ⟨wr.heap.size, 0, none⟩)) true ty).run Tryz.prog (wr.iter ⟨#[]⟩ 0) = _ := fun ty => run_next_end wr ⟨#[]⟩ 0 ty (by decide)
      have hBi : Below w.heap.size w (wr.iter ⟨#[]⟩ 0) := hB.alloc hB.size _
      go_wp2
      go_ret2
      exact ⟨rfl, hBi⟩

set_option maxRecDepth 100000 in
set_option maxHeartbeats 2000000 in
theorem name_len (s : ByteArray) (kind : Int) (w : World) (hk0 : 0 ≤ kind) (hk : kind ≤ 4) (hs : s.size ≠ 3) :
    Calls Tryz.prog 135 #[.string s, .int .i64 kind] w fun e w' => e = .returned (.tuple #[.int .i64 0, .int .i64 2]) ∧ Below w.heap.size w w' := by
  have hs' : ((s.size : Int) != 3) = true := by simp; omega
  clear hs
  obtain rfl | rfl | rfl | rfl | rfl : kind = 0 ∨ kind = 1 ∨ kind = 2 ∨ kind = 3 ∨ kind = 4 := by omega
  all_goals
    go_enter Tryz.func135, Tryz.ntmps135
    go_wp2
    go_ret2
    exact ⟨rfl, Below.refl _ _⟩

set_option maxRecDepth 100000 in
set_option maxHeartbeats 2000000 in
theorem value_nil (s : ByteArray) (kind : Int) (w : World) (h0 : 0 ≤ kind) (h1 : kind ≤ 4) (hs : s.toList = []) (M : Int × Int) (hNm : ∀ w, Calls Tryz.prog 135 #[.string s, .int .i64 kind] w fun e w' => e = .returned (.tuple #[.int .i64 M.1, .int .i64 M.2]) ∧ Below w.heap.size w w') :
    Calls Tryz.prog 109 #[.string s, .int .i64 kind] w fun e w' => e = .returned (.tuple #[.int .i64 (rangeI kind M).1, .int .i64 (rangeI kind M).2]) ∧ Below w.heap.size w w' := by
  have h2 : s.toList.isEmpty = true := by rw [hs]; rfl
  clear hs
  have hv := fun W b c k l => Lib.hid (val1_any s b c kind M W k l hNm)
  clear hNm
  have hR : Hid (∀ n e, M = (n, e) → rangeI kind M = if e = 0 ∧ (n < lexLo kind ∨ lexHi kind < n) then (0, 1) else (n, e)) := fun n e h => by rw [h]; rfl
  generalize hN : rangeI kind M = R at hR ⊢
  obtain ⟨n, er⟩ := M
  have hR := hR.out n er rfl
  have hRH := Lib.hid hR
  clear hR hN
  have e1 := eg_val1
  go_enter Tryz.func109, Tryz.ntmps109
  go_wp2_with fail
  refine (limits_q kind _ h0 h1).mono ?_
  rintro e w1 ⟨rfl, rfl⟩
  go_wp2_with fail
  refine (hv _ _ _ (by go_simp) (by go_simp)).out.mono ?_
  rintro e w1 ⟨rfl, hb⟩
  have hb0 : Below w.heap.size w w1 := ((Below.refl _ _).alloc (Nat.le_refl _) _).alloc (by simp) _ |>.trans (hb.mono (by simp; omega))
  clear hb
  by_cases he : er = 0
  · subst he
    by_cases hlo : n < lexLo kind
    · have hR2 := Lib.hid (show R = (0, 1) by rw [hRH.out, if_pos ⟨rfl, .inl hlo⟩])
      clear hRH hR
      go_wp2
      go_ret2
      exact ⟨by rw [hR2.out]; rfl, hb0⟩
    · by_cases hhi : lexHi kind < n
      · have hR2 := Lib.hid (show R = (0, 1) by rw [hRH.out, if_pos ⟨rfl, .inr hhi⟩])
        clear hRH hR
        go_wp2
        go_ret2
        exact ⟨by rw [hR2.out]; rfl, hb0⟩
      · have hR2 := Lib.hid (show R = (n, 0) by rw [hRH.out, if_neg (fun h => by rcases h.2 with h | h <;> omega)])
        clear hRH hR
        go_wp2
        go_ret2
        exact ⟨by rw [hR2.out]; rfl, hb0⟩
  · have heb : (er == 0) = false := by simpa using he
    have hR2 := Lib.hid (show R = (n, er) by rw [hRH.out, if_neg (fun h => he h.1)])
    clear he
    clear hRH hR
    go_wp2
    go_ret2
    exact ⟨by rw [hR2.out]; rfl, hb0⟩


/-- What lex.Name answers. -/
def nameF (kind : Int) (l : List UInt8) : Int × Int := match l with
  | [x, y, z] => if kind = 3 then nameR (findN monthsT (strOfNums [lo8 x.toNat, lo8 y.toNat, lo8 z.toNat]) 37 0) 1 else if kind = 4 then nameR (findN daysT (strOfNums [lo8 x.toNat, lo8 y.toNat, lo8 z.toNat]) 22 0) 0 else (0, 2)
  | _ => (0, 2)
theorem name_any (s : ByteArray) (kind : Int) (w : World) (h0 : 0 ≤ kind) (h1 : kind ≤ 4) :
    Calls Tryz.prog 135 #[.string s, .int .i64 kind] w fun e w' => e = .returned (.tuple #[.int .i64 (nameF kind s.data.toList).1, .int .i64 (nameF kind s.data.toList).2]) ∧ Below w.heap.size w w' := by
  obtain ⟨⟨l⟩⟩ := s
  by_cases h3 : l.length = 3
  · obtain ⟨x, y, z, rfl⟩ : ∃ x y z, l = [x, y, z] := by
      match l, h3 with
      | [a, b, c], _ => exact ⟨a, b, c, rfl⟩
    show Calls _ _ _ _ fun e w' => e = .returned (.tuple #[.int .i64 (nameF kind [x, y, z]).1, .int .i64 (nameF kind [x, y, z]).2]) ∧ _
    by_cases k3 : kind = 3
    · subst k3
      exact name_month x y z w _ rfl
    · by_cases k4 : kind = 4
      · subst k4
        exact name_day x y z w _ rfl
      · have e : nameF kind [x, y, z] = (0, 2) := by unfold nameF; simp only; rw [if_neg k3, if_neg k4]
        rw [e]
        exact name_few x y z kind w h0 (by omega)
  · have e : nameF kind l = (0, 2) := by
      unfold nameF
      split
      · exact absurd rfl h3
      · rfl
    show Calls _ _ _ _ fun r w' => r = .returned (.tuple #[.int .i64 (nameF kind l).1, .int .i64 (nameF kind l).2]) ∧ _
    rw [e]
    exact name_len _ kind w h0 h1 h3
/-- What lex.Value answers. -/
def valF (kind : Int) (l : List UInt8) : Int × Int := match l with
  | [] => rangeI kind (nameF kind [])
  | c :: r => if digI (c.toNat : Int) then rangeI kind (numL (c :: r)) else rangeI kind (nameF kind (c :: r))
theorem valR_any (s : ByteArray) (kind : Int) (h0 : 0 ≤ kind) (h1 : kind ≤ 4) : ValR s kind (valF kind s.data.toList).1 (valF kind s.data.toList).2 := by
  intro w
  have hN := fun w => name_any s kind w h0 h1
  obtain ⟨⟨l⟩⟩ := s
  cases l with
  | nil => exact value_nil _ kind w h0 h1 (by rw [ByteArray.toList_eq]) _ hN
  | cons c r =>
    have hp : 0 < (⟨(c :: r).toArray⟩ : ByteArray).size := by show 0 < (c :: r).toArray.size; simp
    show Calls _ _ _ _ fun e w' => e = .returned (.tuple #[.int .i64 (valF kind (c :: r)).1, .int .i64 (valF kind (c :: r)).2]) ∧ _
    unfold valF
    simp only
    cases hd : digI (c.toNat : Int)
    · rw [if_neg (by decide)]
      exact value_nam _ kind w h0 h1 hp hd _ hN
    · rw [if_pos rfl]
      exact value_dig _ kind w h0 h1 hp hd

end Go.Proofs.YtkdejfedigiohaaGreatDoor

/- field.Parse at a text one of whose items is wrong. -/
namespace Go.Proofs.YtkdejfedigiohaaGreatDoor
open Go.RowKit Go.Proofs.YtkdejfedigiohaaGreatDoorW.PrintWords Go.Proofs.YtkdejfedigiohaaGreatDoorW.PrintLast Go.Proofs.YtkdejfedigiohaaGreatDoorW.PrintMore
set_option linter.unusedVariables false
set_option linter.unusedSimpArgs false

attribute [local go_sem] Oper.semAt_some

/-- What is wrong with an item's ends. -/
def ValsBad (kind : Int) (a : ByteArray) (n : Nat) (row : Array Value) (e : Int) : Prop :=
  a.toList ≠ [42] ∧ e ≠ 0 ∧ ((1 ≤ n ∧ ∃ e0 v, row[0]? = some (.string e0) ∧ ValR e0 kind v e) ∨ (n = 2 ∧ ∃ e0 e1 v v2, row = #[.string e0, .string e1] ∧ ValIs e0 kind v ∧ ValR e1 kind v2 e)
    ∨ (n = 2 ∧ e = 12 ∧ ∃ e0 e1 v v2, row = #[.string e0, .string e1] ∧ ValIs e0 kind v ∧ ValIs e1 kind v2 ∧ v2 < v))
/-- What is wrong with an item's step. -/
def StepBad (be : ByteArray) (cut : Bool) (e : Int) : Prop := cut = true ∧ ∃ n er, numL be.data.toList = (n, er) ∧ ((er ≠ 0 ∧ e = er) ∨ (er = 0 ∧ n = 0 ∧ e = 1))
/-- How an item is cut. -/
def CutIs (t a be : ByteArray) (cut : Bool) (n : Nat) (row : Array Value) (two : Bool) : Prop :=
  Lib.cut t.data.toList [47] = (a.data.toList, be.data.toList, cut) ∧ a.size < 4294967281 ∧ be.size < 4294967281 ∧ Lib.contains be.data.toList [47] = two ∧ Lib.countB a ⟨#[45]⟩ + 1 = n ∧ ((Lib.splitB ⟨#[45]⟩ 0 (Lib.countB a ⟨#[45]⟩) a).map Value.string).toArray = row
/-- An item that is wrong: e. -/
structure ItemBad (kind : Int) (t : ByteArray) (e : Int) : Prop where
  k0 : 0 ≤ kind
  k1 : kind ≤ 4
  size : t.size < 4294967281
  ex : ∃ (a be : ByteArray) (cut : Bool) (n : Nat) (row : Array Value) (two : Bool), CutIs t a be cut n row two
    ∧ ((e = 2 ∧ (two = true ∨ (two = false ∧ 2 < n) ∨ (two = false ∧ n ≤ 2 ∧ cut = true ∧ a.toList ≠ [42] ∧ n < 2)))
      ∨ (two = false ∧ n ≤ 2 ∧ (cut = true → a.toList ≠ [42] → n = 2) ∧ (ValsBad kind a n row e ∨ (∃ lo hi, ValsOk kind a n row lo hi) ∧ StepBad be cut e)))

theorem split_any {kind : Int} {t a be : ByteArray} {cut : Bool} {n : Nat} {row : Array Value} (hc : CutIs t a be cut n row false) (hs : t.size < 4294967281) (hn : n ≤ 2) (hf : cut = true → a.toList ≠ [42] → n = 2) (b : Nat) (W : World) (hE : Env W) (h8 : 8 ≤ b) (hS : S0 kind t W b) :
    Calls Tryz.prog 73 #[.pointer (some ⟨b, 0, none⟩)] W fun r w' => r = .returned .nilIface ∧ KX b W w' ∧ ∃ g, g ≠ b ∧ ItB w' b t a be cut (.slice (some ⟨g, 0, none⟩) n n) kind 0 0 0 ∧ w'.heap[g]? = some (.cells row 9 (0, 0)) := by
  obtain ⟨h1, h2, h3, h4, h5, h6⟩ := hc
  refine (split_ok b n row t a be cut kind W hE h8 hS hs h1 h2 h3 h4 h5 h6 hn hf).mono ?_
  rintro e w' ⟨rfl, g, hg, hK, hI, hr⟩
  exact ⟨rfl, hK, g, by have := blk_lt (show W.heap[b]? = _ from hS); omega, hI, hr⟩
theorem values_bad {kind e : Int} {t a be : ByteArray} {cut : Bool} {n g b : Nat} {row : Array Value} (h0 : 0 ≤ kind) (h1 : kind ≤ 4) (hv : ValsBad kind a n row e) (W : World) (hgb : g ≠ b) (hI : ItB W b t a be cut (.slice (some ⟨g, 0, none⟩) n n) kind 0 0 0) (hr : W.heap[g]? = some (.cells row 9 (0, 0))) :
    Calls Tryz.prog 74 #[.pointer (some ⟨b, 0, none⟩)] W fun r w' => ∃ v, r = .returned v ∧ Hid (Faulty v e w' ∧ KX b W w') := by
  obtain ⟨hst, he, hv⟩ := hv
  rcases hv with ⟨hn, e0, v, hrow, hv⟩ | ⟨rfl, e0, e1, v, v2, rfl, hv, hv2⟩ | ⟨rfl, rfl, e0, e1, v, v2, rfl, hv, hv2, hlt⟩
  · exact values_e0 b g n t a be e0 cut kind v e W h0 h1 hn he hI ((blk_cell hr 0).trans hrow) hgb hst hv
  · exact values_e1 b g t a be e0 e1 cut kind v v2 e W h0 h1 hI hr hgb hst hv hv2 he
  · exact values_ord b g t a be e0 e1 cut kind v v2 W h0 h1 hI hr hgb hst hv hv2 hlt
theorem values_fine {kind lo hi : Int} {t a be : ByteArray} {cut : Bool} {n g b : Nat} {row : Array Value} (h0 : 0 ≤ kind) (h1 : kind ≤ 4) (hv : ValsOk kind a n row lo hi) (W : World) (hgb : g ≠ b) (hI : ItB W b t a be cut (.slice (some ⟨g, 0, none⟩) n n) kind 0 0 0) (hr : W.heap[g]? = some (.cells row 9 (0, 0))) :
    Calls Tryz.prog 74 #[.pointer (some ⟨b, 0, none⟩)] W fun r w' => r = .returned .nilIface ∧ KX b W w' ∧ ∃ ends lo hi, ItB w' b t a be cut ends kind lo hi 0 := by
  rcases hv with ⟨q1, rfl, rfl⟩ | ⟨q1, rfl, rfl, e0, rfl, hv⟩ | ⟨q1, rfl, hord, e0, e1, rfl, hv, hv2⟩
  · refine (values_star b g n t a be cut kind W h0 h1 hI q1).mono ?_
    rintro e w' ⟨rfl, hK, hI'⟩
    exact ⟨rfl, hK, _, _, _, hI'⟩
  · refine (values_one b g t a be e0 cut kind _ W h0 h1 hI hr hgb q1 hv).mono ?_
    rintro e w' ⟨rfl, hK, hI'⟩
    exact ⟨rfl, hK, _, _, _, hI'⟩
  · refine (values_two b g t a be e0 e1 cut kind _ _ W h0 h1 hI hr hgb q1 hv hv2 hord).mono ?_
    rintro e w' ⟨rfl, hK, hI'⟩
    exact ⟨rfl, hK, _, _, _, hI'⟩

theorem leaves_err (w : World) (e0 : Int) (tmps : Array Value) (t4 : tmps[4]?.getD undef = .pointer (some ⟨w.heap.size, 0, none⟩)) (t5 : tmps[5]?.getD undef = .int .i64 e0) : ∀ (ds : List Deferred) (W : World),
    Marks w.heap.size ds W → Below w.heap.size w W → W.heap[w.heap.size]? = some (.cells #[.int .u64 0, .bool false] 24 (0, 0)) →
    LeavesInM Fence.wide 9 Tryz.prog Tryz.f33 tmps (fun e w' => e = .returned (.tuple #[.agg #[.int .u64 0, .bool false], .int .i64 e0]) ∧ Below w.heap.size w w') ds .returning W
  | [], W, _, hB, hR => by
    have c0 : W.cell? ⟨w.heap.size, 0, none⟩ = some (.int .u64 0) := blk_cell hR 0
    have c1 : W.cell? ⟨w.heap.size, 1, none⟩ = some (.bool false) := blk_cell hR 1
    exact ⟨_, (by simp [results, Tryz.results33, go_sem, t4, t5, c0, c1]), rfl, hB⟩
  | d :: ds, W, hM, hB, hR => by
    obtain ⟨r, rfl, hr, hw⟩ := hM.2 d (by simp)
    have hne : r ≠ w.heap.size := by rintro rfl; rw [hw] at hR; cases hR
    refine ⟨by simp, .inl ⟨r, _, rfl, run_takeDeferred hw, leaves_err w e0 tmps t4 t5 ds _ ⟨(List.nodup_cons.1 hM.1).2, fun d hd => ?_⟩ (hB.trans (belowK_b (w := w) (Nat.le_refl _) W r _ _ hr hw rfl rfl)) ((World.putObj_heap_other (Ne.symm hne)).trans hR)⟩⟩
    obtain ⟨r', rfl, hr', hw'⟩ := hM.2 d (by simp [hd])
    refine ⟨r', rfl, hr', (World.putObj_heap_other ?_).trans hw'⟩
    rintro rfl
    exact (List.nodup_cons.1 hM.1).1 hd

set_option maxRecDepth 100000 in
set_option maxHeartbeats 2000000 in
theorem parse_bad (s : ByteArray) (kind e0 : Int) (w : World) (star : Bool) (L : List It) (tb : ByteArray) (rest : List ByteArray) (hEr : ErrV w) (hbad : ItemBad kind tb e0) (h0 : 0 ≤ kind) (h1 : kind ≤ 4) (hE : Env w) (h8 : 8 ≤ w.heap.size) (hs : s.size < 4294967281) (hstar : (s.toList == [42]) = star)
    (hL : Lib.splitB ⟨#[44]⟩ 0 (Lib.countB s ⟨#[44]⟩) s = L.map (·.1) ++ tb :: rest) (hn : Lib.countB s ⟨#[44]⟩ + 1 = L.length + (rest.length + 1)) (hlen : L.length + (rest.length + 1) < 4294967296) (hI : ∀ x ∈ L, ItemOk kind x.1 x.2.1 x.2.2.1 x.2.2.2) :
    Calls Tryz.prog 33 #[.string s, .int .i64 kind] w fun e w' => e = .returned (.tuple #[.agg #[.int .u64 0, .bool false], .int .i64 e0]) ∧ Below w.heap.size w w' := by
  have hL0 := Lib.hid hL
  have hn0 := Lib.hid hn
  have hI0 := Lib.hid hI
  have hbadH := Lib.hid hbad
  have hErH := Lib.hid hEr
  clear hL hn hI hbad hEr
  refine callsIn_wide.1 (callsIn_of_wp_marks (n := 9) Tryz.func33 rfl trivial ?_ rfl)
  refine wpIn_wide.2 ?_
  simp only [Tryz.ntmps33, List.size_toArray, List.length_cons, List.length_nil, Nat.reduceAdd, Nat.reduceSub, Array.replicate_succ, Array.replicate_zero, List.push_toArray, List.append_toArray, List.nil_append, List.cons_append]
  go_wp2_with fail
  refine (flimits_q kind _ h0 h1).mono ?_
  rintro e w1 ⟨rfl, rfl⟩
  go_wp2_with fail
  generalize hW : (w.alloc (.cells #[.int .u64 0, .bool false] 24)).alloc (.cells #[.int .u64 0, .bool star] 24) = W1
  have hb1 : Below w.heap.size w W1 := by subst hW; exact ((Below.refl _ _).alloc (Nat.le_refl _) _).alloc (by simp) _
  have hR1 : W1.heap[w.heap.size]? = some (.cells #[.int .u64 0, .bool false] 24 (0, 0)) := by subst hW; exact blk_alloc (blk_new _ _) _
  have hF1 : W1.heap[w.heap.size + 1]? = some (.cells #[.int .u64 0, .bool star] 24 (0, 0)) := by subst hW; exact blk_new2' _ _ _ (by simp)
  have hE1 := hE.below hb1
  clear hW
  obtain ⟨m, hm⟩ := hE1.maxLen
  have hlN : L.length < L.length + (rest.length + 1) := by omega
  have hrl : rest.length + 1 = (rest.length + 1) := rfl
  clear hrl
  have hsp := Tryz.strings_Split s ⟨#[44]⟩ m W1 hs hm (by decide)
  rw [hL0.out, hn0.out, List.map_append, List.map_map, List.map_cons] at hsp
  refine hsp.mono ?_
  clear hm hsp
  rintro e w1 ⟨rfl, rfl⟩
  generalize hW : W1.alloc (.cells (List.map (Value.string ∘ fun x : It => x.1) L ++ Value.string tb :: List.map Value.string rest).toArray 9) = W2
  have hb2 : Below w.heap.size w W2 := by subst hW; exact hb1.alloc hb1.size _
  have hR2 : W2.heap[w.heap.size]? = some (.cells #[.int .u64 0, .bool false] 24 (0, 0)) := by subst hW; exact blk_alloc hR1 _
  have hF2 : W2.heap[w.heap.size + 1]? = some (.cells #[.int .u64 0, .bool star] 24 (0, 0)) := by subst hW; exact blk_alloc hF1 _
  have hS2 : W2.heap[W1.heap.size]? = some (.cells (List.map (Value.string ∘ fun x : It => x.1) L ++ Value.string tb :: List.map Value.string rest).toArray 9 (0, 0)) := by subst hW; exact blk_new _ _
  have hE2 := hE.below hb2
  have hlt1 := blk_lt hF1
  clear hW hR1 hF1 hE1 hb1
  generalize hNN : L.length + (rest.length + 1) = N at *
  go_wp2_with fail
  refine wp_loop (fun a W => ∃ (k : Nat) (ds : List Deferred) (u11 u12 u14 u15 u16 u34 u35 u36 u37 u38 u39 u40 u41 u42 u43 u44 u45 u46 u47 u48 u49 u50 u51 u52 u53 u54 u55 u56 u57 u58 u59 u60 u61 u62 u63 u64 u65 u66 u67 u68 u69 u70 u71 : Value), a = { tmps := #[.string s, .int .i64 kind, undef, undef, .pointer (some ⟨w.heap.size, 0, none⟩), .int .i64 0, .int .i64 (lexLo kind), .int .i64 (hiI kind), .int .i64 0, .pointer (some ⟨w.heap.size + 1, 0, none⟩), undef, u11, u12, undef, u14, u15, u16, .tuple #[.int .i64 (lexLo kind), .int .i64 (hiI kind), .int .i64 0], .int .i64 kind, .tuple #[.int .i64 (lexLo kind), .int .i64 (hiI kind), .int .i64 0], .int .i64 (lexLo kind), .int .i64 (hiI kind), .int .i64 0, .int .i64 0, .bool false, undef, undef, .string s, .bool star, .agg #[.int .u64 0, .bool star], .string s, .slice (some ⟨W1.heap.size, 0, none⟩) N N, .int .i64 N, .int .i64 k, u34, u35, u36, u37, u38, u39, u40, u41, u42, u43, u44, u45, u46, u47, u48, u49, u50, u51, u52, u53, u54, u55, u56, u57, u58, u59, u60, u61, u62, u63, u64, u65, u66, u67, u68, u69, u70, u71, undef], defers := ds } ∧ k ≤ L.length ∧ Marks w.heap.size ds W ∧ Below w.heap.size w W
      ∧ W.heap[w.heap.size]? = some (.cells #[.int .u64 0, .bool false] 24 (0, 0)) ∧ W.heap[w.heap.size + 1]? = some (.cells #[.int .u64 (bitsI kind 0 (L.take k)), .bool star] 24 (0, 0))
      ∧ W.heap[W1.heap.size]? = some (.cells (List.map (Value.string ∘ fun x : It => x.1) L ++ Value.string tb :: List.map Value.string rest).toArray 9 (0, 0))) (fun a _ => N - (intOf (a.tmps.getD 33 undef)).toNat) ?_ ?_
  · exact ⟨0, [], undef, undef, undef, undef, undef, undef, undef, undef, undef, undef, undef, undef, undef, undef, undef, undef, undef, undef, undef, undef, undef, undef, undef, undef, undef, undef, undef, undef, undef, undef, undef, undef, undef, undef, undef, undef, undef, undef, undef, undef, undef, undef, undef, rfl, Nat.zero_le _, Marks.nil _ _, hb2, hR2, hF2, hS2⟩
  · rintro a W ⟨k, ds, u11, u12, u14, u15, u16, u34, u35, u36, u37, u38, u39, u40, u41, u42, u43, u44, u45, u46, u47, u48, u49, u50, u51, u52, u53, u54, u55, u56, u57, u58, u59, u60, u61, u62, u63, u64, u65, u66, u67, u68, u69, u70, u71, rfl, hk, hM, hB, hR, hF, hS⟩
    by_cases hlt : k < L.length
    · have hlt' : (k : Int) < (N : Int) := by omega
      obtain ⟨x, hx⟩ : ∃ x, L[k]? = some x := ⟨_, List.getElem?_eq_getElem hlt⟩
      have hcell : W.cell? ⟨W1.heap.size, k, none⟩ = some (.string x.1) := by rw [blk_cell hS]; obtain ⟨_, hx2⟩ := List.getElem?_eq_some_iff.1 hx; simp [List.getElem?_append_left, hlt, hx2]
      have hItem := hI0.out x (List.mem_of_getElem? hx)
      go_wp2_with fail
      generalize hV : (W.alloc _).alloc _ = V
      have hP : InP w W1.heap.size W.heap.size star (bitsI kind 0 (L.take k)) (List.map (Value.string ∘ fun x : It => x.1) L ++ Value.string tb :: List.map Value.string rest).toArray ds V := by
        subst hV
        exact ⟨(hB.alloc hB.size _).alloc (by have := hB.size; simp; omega) _, blk_alloc (blk_alloc hR _) _, blk_alloc (blk_alloc hF _) _, blk_alloc (blk_alloc hS _) _, hM.kx fun r h => blk_alloc (blk_alloc h _) _,
          ⟨_, _, blk_alloc (blk_new _ _) _⟩, blk_new2' _ _ _ (by simp), hE.below ((hB.alloc hB.size _).alloc (by have := hB.size; simp; omega) _), blk_lt hF, blk_lt hS, by have := blk_lt hF; omega⟩
      have hS0 : S0 kind x.1 V W.heap.size := by
        subst hV
        exact blk_alloc (blk_new _ _) _
      clear hV hB hR hF hS hM hcell hE2
      generalize W.heap.size = bi at hP hS0 ⊢
      generalize hsb : W1.heap.size = sb at hP ⊢
      refine wp_loop_rounds 4 ?_
      rw [rounds_succ]
      have p0 : V.cell? ⟨bi + 1, 0, none⟩ = some (.func (.func 73) #[.pointer (some ⟨bi, 0, none⟩)] #[]) := blk_cell hP.fn 0
      go_wp2_with fail
      refine (read_split hItem bi V hP.env hP.g8 hS0).mono ?_
      clear hS0 p0
      rintro e V1 ⟨rfl, hK, hS1⟩
      have hP1 := hP.kx hK (by obtain ⟨_, _, _, _, _, _, h, _⟩ := hS1; exact ⟨_, _, h⟩)
      clear hK hP
      have p0 : V1.cell? ⟨bi + 1, 1, none⟩ = some (.func (.func 74) #[.pointer (some ⟨bi, 0, none⟩)] #[]) := blk_cell hP1.fn 1
      go_wp2_with fail
      rw [rounds_succ]
      go_wp2_with fail
      refine (read_values hItem bi V1 hS1).mono ?_
      clear hS1 p0
      rintro e V2 ⟨rfl, hK, hS2⟩
      have hP2 := hP1.kx hK (by obtain ⟨_, _, _, _, h, _⟩ := hS2; exact ⟨_, _, h⟩)
      clear hK hP1
      have p0 : V2.cell? ⟨bi + 1, 2, none⟩ = some (.func (.func 75) #[.pointer (some ⟨bi, 0, none⟩)] #[]) := blk_cell hP2.fn 2
      go_wp2_with fail
      rw [rounds_succ]
      go_wp2_with fail
      refine (read_step bi V2 hS2).mono ?_
      clear hS2 p0
      rintro e V3 ⟨rfl, hK, a, be, cut, ends, hIt⟩
      have hP3 := hP2.kx hK ⟨_, _, hIt⟩
      clear hK hP2
      go_wp2_with fail
      rw [rounds_succ]
      go_wp2_with fail
      refine (each_q bi V3).mono ?_
      rintro e V4 ⟨rfl, hV⟩
      have hP4 := hP3.kx (hV ▸ KX.alloc V3 _) ⟨_, _, hV ▸ blk_alloc hIt _⟩
      have hIt4 : ItB V4 bi x.1 a be cut ends kind x.2.1 x.2.2.1 x.2.2.2 := hV ▸ blk_alloc hIt _
      have hbp : V4.heap[V3.heap.size]? = some (.cells #[.pointer (some ⟨bi, 0, none⟩)] 108 (0, 0)) := hV ▸ blk_new _ _
      have hbb := blk_lt hIt
      clear hV hIt hP3
      generalize V3.heap.size = bp at *
      clear V3
      have hbl := blk_lt hbp
      go_wp2_with fail
      refine wpIn_wide.1 (wpIn_rangeFunc_ownF (F := Fence.wide) (n := 9) rfl (by decide) (gf := 112) (lb := #[.pointer (some ⟨bp, 0, none⟩)]) rfl trivial eg_ea1
        (each1_stops (9 - 1) (by decide) bi bp x.1 a be cut ends kind x.2.1 x.2.2.1 x.2.2.2 hItem.lo0 hItem.hi1 hItem.st0 hItem.st1 V4 hIt4 hbp) kpI_t
        (fun W l o o' hl _ _ _ => ⟨World.putObj_heap_other (by omega), World.putObj_heap_other (by omega)⟩) (Below.refl _ _) (fun _ => rfl)
        (fun pre W => RngI w V4 sb star (bitsI kind 0 (L.take k)) (List.map (Value.string ∘ fun x : It => x.1) L ++ Value.string tb :: List.map Value.string rest).toArray pre W) (fun _ _ _ => False) (rngI_own (blk_lt hP4.f) (blk_lt hP4.s)) (fun _ _ _ _ _ hs _ _ => hs)
        ⟨hP4.below, Nat.le_refl _, hP4.r, hP4.f, hP4.s, fun _ h => h⟩
        (fun v => { tmps := #[Value.string s, Value.int IntKind.i64 kind, undef, undef, Value.pointer (some { block := w.heap.size, off := 0 }), Value.int IntKind.i64 0, Value.int IntKind.i64 (lexLo kind), Value.int IntKind.i64 (hiI kind), Value.int IntKind.i64 0, Value.pointer (some { block := w.heap.size + 1, off := 0 }), undef, Value.string x.fst, Value.pointer (some { block := bi, off := 0 }), undef, Value.func (.func 75) #[Value.pointer (some { block := bi, off := 0 })] #[], Value.nilIface, .int .i64 v, Value.tuple #[Value.int IntKind.i64 (lexLo kind), Value.int IntKind.i64 (hiI kind), Value.int IntKind.i64 0], Value.int IntKind.i64 kind, Value.tuple #[Value.int IntKind.i64 (lexLo kind), Value.int IntKind.i64 (hiI kind), Value.int IntKind.i64 0], Value.int IntKind.i64 (lexLo kind), Value.int IntKind.i64 (hiI kind), Value.int IntKind.i64 0, Value.int IntKind.i64 0, Value.bool false, undef, undef, Value.string s, Value.bool star, Value.agg #[Value.int IntKind.u64 0, Value.bool star], Value.string s, Value.slice (some { block := sb, off := 0 }) N N, Value.int IntKind.i64 ↑N, Value.int IntKind.i64 ↑k, Value.bool true, Value.pointer (some { block := sb, off := k }), Value.string x.fst, Value.string x.fst, Value.int IntKind.i64 kind, Value.agg #[Value.string x.fst, Value.string { data := #[] }, Value.string { data := #[] }, Value.bool false, Value.slice none 0 0, Value.int IntKind.i64 kind, Value.int IntKind.i64 0, Value.int IntKind.i64 0, Value.int IntKind.i64 0], Value.pointer (some { block := bi, off := 0 }), Value.pointer (some { block := bi, off := 0 }), Value.func (.func 73) #[Value.pointer (some { block := bi, off := 0 })] #[], Value.pointer (some { block := bi, off := 0 }), Value.func (.func 74) #[Value.pointer (some { block := bi, off := 0 })] #[], Value.pointer (some { block := bi, off := 0 }), Value.func (.func 75) #[Value.pointer (some { block := bi, off := 0 })] #[], Value.slice (some { block := bi + 1, off := 0 }) 3 3, Value.int IntKind.i64 3, Value.int IntKind.i64 3, Value.bool false, Value.pointer (some { block := bi + 1, off := 2 }), Value.func (.func 75) #[Value.pointer (some { block := bi, off := 0 })] #[], Value.func (.func 75) #[Value.pointer (some { block := bi, off := 0 })] #[], Value.nilIface, Value.nilIface, Value.bool false, u57, u58, u59, Value.int IntKind.i64 3, Value.pointer (some { block := bi, off := 0 }), Value.func (.func 112) #[] #[Value.pointer (some { block := bp, off := 0 })], .int .i64 v, u64, u65, u66, u67, u68, u69, u70, u71, undef], defers := [] }) ?assign ?body ?done ?stop)
      case assign =>
        intro l v W K hK
        gi_wp2
        exact hK
      case body =>
        rintro l pre v W hI _
        have q0 : W.cell? ⟨w.heap.size + 1, 0, none⟩ = some (.int .u64 (bitsV (bitsI kind 0 (L.take k)) pre)) := blk_cell hI.f 0
        have q1 : W.frozen? ⟨w.heap.size + 1, 0, none⟩ = false := blk_frozen hI.f 0
        gi_wp2
        refine ⟨KeepsOthers.setCell _ _ _, ⟨Below.heap_setCell _ _ _ _ ?_, Below.heap_setCell _ _ _ _ ?_⟩, hI.below.setCell (p := ⟨w.heap.size + 1, 0, none⟩) (by simp) _, by have := hI.size; simp [World.setCell]; omega, blk_far hI.r (by simp) _, ?_, blk_far hI.s ?_ _, fun r hr => (Below.heap_setCell _ _ _ _ ?_).trans (hI.m r hr)⟩
        · have := hP4.lo; simp; omega
        · have := hP4.lo; simp; omega
        · rw [show bitsV (bitsI kind 0 (L.take k)) (pre ++ [v]) = orB (bitsV (bitsI kind 0 (L.take k)) pre) v by simp [bitsV]]
          exact blk_put hI.f 0 _ rfl
        · have := hP4.r
          simp only
          rintro rfl
          exact absurd hlt1 (by omega)
        · rintro rfl
          have := hI.m _ hr
          rw [hI.f] at this
          cases this
      case stop =>
        rintro D c pre W hD _ h _
        exact h.elim
      case done =>
        rintro D ys W hD rfl hI hK
        subst hsb
        go_wp2
        go_roundw
        case rel =>
          refine ⟨k + 1, _, _, _, _, _, _, _, _, _, _, _, _, _, _, _, _, _, _, _, _, _, _, _, _, _, _, _, _, _, _, _, _, _, _, _, _, _, _, _, _, _, _, _, _, rfl, by omega, hP4.m.cons hI.m (by have := hP4.below.size; omega) hD hK, hI.below, hI.r, ?_, hI.s⟩
          rw [show bitsI kind 0 (L.take (k + 1)) = bitsV (bitsI kind 0 (L.take k)) (valsI kind x.2.1 x.2.2.1 x.2.2.2) by rw [List.take_add_one, hx]; simp [bitsI]]
          exact hI.f
        case measure => simp [intOf]; omega
    · obtain rfl : k = L.length := by omega
      rw [List.take_length] at hF
      have hltN : (L.length : Int) < (N : Int) := by omega
      have hcell : W.cell? ⟨W1.heap.size, L.length, none⟩ = some (.string tb) := by rw [blk_cell hS]; simp
      go_wp2_with fail
      generalize hV : (W.alloc _).alloc _ = V
      have hP : InP w W1.heap.size W.heap.size star (bitsI kind 0 L) (List.map (Value.string ∘ fun x : It => x.1) L ++ Value.string tb :: List.map Value.string rest).toArray ds V := by
        subst hV
        exact ⟨(hB.alloc hB.size _).alloc (by have := hB.size; simp; omega) _, blk_alloc (blk_alloc hR _) _, blk_alloc (blk_alloc hF _) _, blk_alloc (blk_alloc hS _) _, hM.kx fun r h => blk_alloc (blk_alloc h _) _,
          ⟨_, _, blk_alloc (blk_new _ _) _⟩, blk_new2' _ _ _ (by simp), hE.below ((hB.alloc hB.size _).alloc (by have := hB.size; simp; omega) _), blk_lt hF, blk_lt hS, by have := blk_lt hF; omega⟩
      have hS0 : S0 kind tb V W.heap.size := by
        subst hV
        exact blk_alloc (blk_new _ _) _
      clear hV hB hR hF hS hM hcell hE2
      generalize W.heap.size = bi at hP hS0 ⊢
      generalize hsb : W1.heap.size = sb at hP ⊢
      refine wp_loop_rounds 4 ?_
      rw [rounds_succ]
      have p0 : V.cell? ⟨bi + 1, 0, none⟩ = some (.func (.func 73) #[.pointer (some ⟨bi, 0, none⟩)] #[]) := blk_cell hP.fn 0
      obtain ⟨a, be, cut, n, row, two, hcut, hcase⟩ := hbadH.out.ex
      have hb0 := hbadH.out.k0
      have hb1 := hbadH.out.k1
      have hbs := hbadH.out.size
      clear hbadH hI0 hL0
      rcases hcase with ⟨rfl, hbad⟩ | ⟨rfl, hn2, hform, hcase⟩
      · obtain ⟨q1, q2, q3, q4, q5, q6⟩ := hcut
        have hSp := Lib.hid (split_bad bi n row tb a be cut kind V hP.env hP.g8 hS0 hbs q1 q2 q3 two q4 q5 q6 hbad)
        clear hS0 hbad q1 q4 q5 q6
        go_wp2_with fail
        refine hSp.out.mono ?_
        clear p0 hSp
        rintro r V1 ⟨v, rfl, hv⟩
        obtain ⟨hFa, hK⟩ := hv.out
        obtain ⟨fb, rfl, hfc⟩ := hFa
        have hB1 := hP.below.trans (hK.below (Nat.le_of_lt (Nat.lt_of_succ_lt hP.lo)) hP.below.size)
        have hR1 := hK.blk hP.r (by have := hP.lo; omega)
        have hM1 : Marks w.heap.size ds V1 := hP.m.kx fun r hr => hK.blk hr (by rintro rfl; obtain ⟨cs, t, hc⟩ := hP.c; rw [hc] at hr; cases hr)
        have hNb := Lib.hid (number_bad _ 2 V1 (hErH.out.on hB1) ⟨fb, rfl, hfc⟩)
        clear hv hP hK hfc
        go_wp2_with fail
        refine hNb.out.mono ?_
        rintro r V9 ⟨rfl, hb9⟩
        have hB9 := hB1.trans (hb9.mono hB1.size)
        have hR9 := blk_below hR1 hb9
        have hM9 : Marks w.heap.size ds V9 := hM1.kx fun r hr => blk_below hr hb9
        clear hNb hb9 hB1 hR1 hM1
        have r0 : V9.frozen? ⟨w.heap.size, 0, none⟩ = false := blk_frozen hR9 0
        have r1 : V9.frozen? ⟨w.heap.size, 1, none⟩ = false := blk_frozen hR9 1
        have s0 : V9.cell? ⟨w.heap.size, 0, none⟩ = some (.int .u64 0) := blk_cell hR9 0
        have s1 : V9.cell? ⟨w.heap.size, 1, none⟩ = some (.bool false) := blk_cell hR9 1
        have hR9H := Lib.hid hR9
        have hM9H := Lib.hid hM9
        clear hR9 hM9
        go_wp2
        refine leaves_err w 2 _ rfl rfl ds _ (hM9H.out.kx fun r hr => ?_) ((hB9.setCell (p := ⟨w.heap.size, 0, none⟩) (Nat.le_refl _) _).setCell (p := ⟨w.heap.size, 1, none⟩) (Nat.le_refl _) _) (blk_put (blk_put hR9H.out 0 _ rfl) 1 _ rfl)
        have hne : r ≠ w.heap.size := by rintro rfl; rw [hR9H.out] at hr; cases hr
        exact (Below.heap_setCell _ _ _ _ hne).trans ((Below.heap_setCell _ _ _ _ hne).trans hr)
      · have hcutH := Lib.hid hcut
        have hformH := Lib.hid hform
        clear hcut hform
        go_wp2_with fail
        refine (split_any hcutH.out hbs hn2 hformH.out bi V hP.env hP.g8 hS0).mono ?_
        clear hS0 p0
        rintro r V1 ⟨rfl, hK, g, hgb, hI1, hr1⟩
        have hP1 := hP.kx hK ⟨_, _, hI1⟩
        clear hK hP
        have p0 : V1.cell? ⟨bi + 1, 1, none⟩ = some (.func (.func 74) #[.pointer (some ⟨bi, 0, none⟩)] #[]) := blk_cell hP1.fn 1
        go_wp2_with fail
        rw [rounds_succ]
        rcases hcase with hvb | ⟨⟨lo, hi, hvo⟩, hsb2⟩
        · have hVb := Lib.hid (values_bad hb0 hb1 hvb V1 hgb hI1 hr1)
          clear hvb hI1 hr1 hcutH hformH
          go_wp2_with fail
          refine hVb.out.mono ?_
          clear p0 hVb
          rintro r V2 ⟨v, rfl, hv⟩
          obtain ⟨hFa, hK⟩ := hv.out
          have hP := hP1
          clear hP1
          obtain ⟨fb, rfl, hfc⟩ := hFa
          have hB1 := hP.below.trans (hK.below (Nat.le_of_lt (Nat.lt_of_succ_lt hP.lo)) hP.below.size)
          have hR1 := hK.blk hP.r (by have := hP.lo; omega)
          have hM1 : Marks w.heap.size ds V2 := hP.m.kx fun r hr => hK.blk hr (by rintro rfl; obtain ⟨cs, t, hc⟩ := hP.c; rw [hc] at hr; cases hr)
          have hNb := Lib.hid (number_bad _ e0 V2 (hErH.out.on hB1) ⟨fb, rfl, hfc⟩)
          clear hv hP hK hfc
          go_wp2_with fail
          refine hNb.out.mono ?_
          rintro r V9 ⟨rfl, hb9⟩
          have hB9 := hB1.trans (hb9.mono hB1.size)
          have hR9 := blk_below hR1 hb9
          have hM9 : Marks w.heap.size ds V9 := hM1.kx fun r hr => blk_below hr hb9
          clear hNb hb9 hB1 hR1 hM1
          have r0 : V9.frozen? ⟨w.heap.size, 0, none⟩ = false := blk_frozen hR9 0
          have r1 : V9.frozen? ⟨w.heap.size, 1, none⟩ = false := blk_frozen hR9 1
          have s0 : V9.cell? ⟨w.heap.size, 0, none⟩ = some (.int .u64 0) := blk_cell hR9 0
          have s1 : V9.cell? ⟨w.heap.size, 1, none⟩ = some (.bool false) := blk_cell hR9 1
          have hR9H := Lib.hid hR9
          have hM9H := Lib.hid hM9
          clear hR9 hM9
          go_wp2
          refine leaves_err w e0 _ rfl rfl ds _ (hM9H.out.kx fun r hr => ?_) ((hB9.setCell (p := ⟨w.heap.size, 0, none⟩) (Nat.le_refl _) _).setCell (p := ⟨w.heap.size, 1, none⟩) (Nat.le_refl _) _) (blk_put (blk_put hR9H.out 0 _ rfl) 1 _ rfl)
          have hne : r ≠ w.heap.size := by rintro rfl; rw [hR9H.out] at hr; cases hr
          exact (Below.heap_setCell _ _ _ _ hne).trans ((Below.heap_setCell _ _ _ _ hne).trans hr)
        · have hVo := Lib.hid (values_fine hb0 hb1 hvo V1 hgb hI1 hr1)
          clear hvo hI1 hr1 hcutH hformH
          obtain ⟨rfl, n3, er, hnum, hc3⟩ := hsb2
          go_wp2_with fail
          refine hVo.out.mono ?_
          clear p0 hVo
          rintro r V2 ⟨rfl, hK, ends, lo, hi, hI2⟩
          have hP2 := hP1.kx hK ⟨_, _, hI2⟩
          clear hK hP1
          have p0 : V2.cell? ⟨bi + 1, 2, none⟩ = some (.func (.func 75) #[.pointer (some ⟨bi, 0, none⟩)] #[]) := blk_cell hP2.fn 2
          go_wp2_with fail
          rw [rounds_succ]
          have hSb := Lib.hid (step_bad bi tb a be ends kind lo hi n3 er e0 V2 hI2 hnum hc3)
          clear hI2 hnum hc3
          go_wp2_with fail
          refine hSb.out.mono ?_
          clear p0 hSb
          rintro r V3 ⟨v, rfl, hv⟩
          obtain ⟨hFa, hK⟩ := hv.out
          have hP := hP2
          clear hP2
          obtain ⟨fb, rfl, hfc⟩ := hFa
          have hB1 := hP.below.trans (hK.below (Nat.le_of_lt (Nat.lt_of_succ_lt hP.lo)) hP.below.size)
          have hR1 := hK.blk hP.r (by have := hP.lo; omega)
          have hM1 : Marks w.heap.size ds V3 := hP.m.kx fun r hr => hK.blk hr (by rintro rfl; obtain ⟨cs, t, hc⟩ := hP.c; rw [hc] at hr; cases hr)
          have hNb := Lib.hid (number_bad _ e0 V3 (hErH.out.on hB1) ⟨fb, rfl, hfc⟩)
          clear hv hP hK hfc
          go_wp2_with fail
          refine hNb.out.mono ?_
          rintro r V9 ⟨rfl, hb9⟩
          have hB9 := hB1.trans (hb9.mono hB1.size)
          have hR9 := blk_below hR1 hb9
          have hM9 : Marks w.heap.size ds V9 := hM1.kx fun r hr => blk_below hr hb9
          clear hNb hb9 hB1 hR1 hM1
          have r0 : V9.frozen? ⟨w.heap.size, 0, none⟩ = false := blk_frozen hR9 0
          have r1 : V9.frozen? ⟨w.heap.size, 1, none⟩ = false := blk_frozen hR9 1
          have s0 : V9.cell? ⟨w.heap.size, 0, none⟩ = some (.int .u64 0) := blk_cell hR9 0
          have s1 : V9.cell? ⟨w.heap.size, 1, none⟩ = some (.bool false) := blk_cell hR9 1
          have hR9H := Lib.hid hR9
          have hM9H := Lib.hid hM9
          clear hR9 hM9
          go_wp2
          refine leaves_err w e0 _ rfl rfl ds _ (hM9H.out.kx fun r hr => ?_) ((hB9.setCell (p := ⟨w.heap.size, 0, none⟩) (Nat.le_refl _) _).setCell (p := ⟨w.heap.size, 1, none⟩) (Nat.le_refl _) _) (blk_put (blk_put hR9H.out 0 _ rfl) 1 _ rfl)
          have hne : r ≠ w.heap.size := by rintro rfl; rw [hR9H.out] at hr; cases hr
          exact (Below.heap_setCell _ _ _ _ hne).trans ((Below.heap_setCell _ _ _ _ hne).trans hr)

end Go.Proofs.YtkdejfedigiohaaGreatDoor

/- field.Parse at whatever text. -/
namespace Go.Proofs.YtkdejfedigiohaaGreatDoor
set_option linter.unusedVariables false
set_option linter.unusedSimpArgs false
open Go.RowKit

/-- What an item's ends come to: from, to, and what is wrong. -/
def endsF (kind : Int) (a : List UInt8) : Int × Int × Int :=
  if a = [42] then (lexLo kind, lexHi kind, 0) else match splitL 45 a with
  | [e0] => if (valF kind e0).2 ≠ 0 then (0, 0, (valF kind e0).2) else ((valF kind e0).1, (valF kind e0).1, 0)
  | [e0, e1] => if (valF kind e0).2 ≠ 0 then (0, 0, (valF kind e0).2) else if (valF kind e1).2 ≠ 0 then (0, 0, (valF kind e1).2) else if (valF kind e1).1 < (valF kind e0).1 then (0, 0, 12) else ((valF kind e0).1, (valF kind e1).1, 0)
  | _ => (0, 0, 2)
/-- What an item comes to: from, to, each, and what is wrong. -/
def itemF (kind : Int) (t : List UInt8) : Int × Int × Int × Int :=
  if (47 : UInt8) ∈ (Lib.cut t [47]).2.1 ∨ 2 < (splitL 45 (Lib.cut t [47]).1).length ∨ ((Lib.cut t [47]).2.2 = true ∧ (Lib.cut t [47]).1 ≠ [42] ∧ (splitL 45 (Lib.cut t [47]).1).length < 2) then (0, 0, 0, 2)
  else if (endsF kind (Lib.cut t [47]).1).2.2 ≠ 0 then (0, 0, 0, (endsF kind (Lib.cut t [47]).1).2.2)
  else if (Lib.cut t [47]).2.2 = false then ((endsF kind (Lib.cut t [47]).1).1, (endsF kind (Lib.cut t [47]).1).2.1, 1, 0)
  else if (numL (Lib.cut t [47]).2.1).2 ≠ 0 then (0, 0, 0, (numL (Lib.cut t [47]).2.1).2)
  else if (numL (Lib.cut t [47]).2.1).1 = 0 then (0, 0, 0, 1)
  else ((endsF kind (Lib.cut t [47]).1).1, (endsF kind (Lib.cut t [47]).1).2.1, (numL (Lib.cut t [47]).2.1).1, 0)
/-- Whether an item is in order. -/
def itemE (kind : Int) (t : List UInt8) : Int := (itemF kind t).2.2.2
def itemsF (kind : Int) : Int → List (List UInt8) → Int × Int
  | b, [] => (b, 0)
  | b, t :: ts => if itemE kind t ≠ 0 then (0, itemE kind t) else itemsF kind (bitsV b (valsI kind (itemF kind t).1 (itemF kind t).2.1 (itemF kind t).2.2.1)) ts
/-- What field.Parse answers: bits, star, and what is wrong. -/
def parseF (kind : Int) (s : List UInt8) : Int × Bool × Int := if (itemsF kind 0 (splitL 44 s)).2 = 0 then ((itemsF kind 0 (splitL 44 s)).1, s == [42], 0) else (0, false, (itemsF kind 0 (splitL 44 s)).2)

theorem numGo_bd : ∀ (l : List UInt8) (n m : Int), 0 ≤ n → numGo l n = (m, 0) → 0 ≤ m ∧ m < (n + 1) * 10 ^ l.length := by
  intro l
  induction l with
  | nil => intro n m h0 h; simp only [numGo] at h; cases h; simp; omega
  | cons c l ih =>
    intro n m h0 h
    unfold numGo at h
    split at h
    · rename_i hd
      unfold digI at hd
      simp only [Bool.and_eq_true, decide_eq_true_eq] at hd
      obtain ⟨a, b⟩ := ih _ m (by omega) h
      refine ⟨a, ?_⟩
      have hp : (0 : Int) < 10 ^ l.length := Int.pow_pos (by decide)
      have hle : (10 * n + ((c.toNat : Int) - 48) + 1) ≤ (n + 1) * 10 := by omega
      have := Int.mul_le_mul_of_nonneg_right hle (Int.le_of_lt hp)
      rw [List.length_cons, Int.pow_succ, Int.mul_comm (10 ^ l.length) 10, ← Int.mul_assoc]
      omega
    · cases h
theorem numL_bd {l : List UInt8} {n : Int} (h : numL l = (n, 0)) : 0 ≤ n ∧ n ≤ 9999 := by
  unfold numL at h
  split at h
  · cases h
  · rename_i hl
    simp only [not_or, Nat.not_lt] at hl
    obtain ⟨a, b⟩ := numGo_bd l 0 n (Int.le_refl _) h
    refine ⟨a, ?_⟩
    obtain e | e | e | e | e : l.length = 0 ∨ l.length = 1 ∨ l.length = 2 ∨ l.length = 3 ∨ l.length = 4 := by omega
    all_goals (rw [e] at b; simp at b; omega)

theorem rangeI_bd {kind v : Int} {p : Int × Int} (h : rangeI kind p = (v, 0)) : lexLo kind ≤ v ∧ v ≤ lexHi kind := by
  unfold rangeI at h
  split at h
  · cases h
  · rename_i hn
    subst h
    simp only [true_and, not_or, Int.not_lt] at hn
    exact hn
theorem valF_bd {kind : Int} {l : List UInt8} (h : (valF kind l).2 = 0) : lexLo kind ≤ (valF kind l).1 ∧ (valF kind l).1 ≤ lexHi kind := by
  obtain ⟨p, hp⟩ : ∃ p, valF kind l = rangeI kind p := by
    unfold valF
    split
    · exact ⟨_, rfl⟩
    · split
      · exact ⟨_, rfl⟩
      · exact ⟨_, rfl⟩
  rw [hp] at h ⊢
  exact rangeI_bd (show rangeI kind p = ((rangeI kind p).1, 0) by rw [← h])
theorem valIs_of {kind : Int} (h0 : 0 ≤ kind) (h1 : kind ≤ 4) {l : List UInt8} (h : (valF kind l).2 = 0) : ValIs ⟨l.toArray⟩ kind (valF kind l).1 := by
  intro w
  have := valR_any ⟨l.toArray⟩ kind h0 h1 w
  rw [bytes_mk, h] at this
  exact this
theorem valR_of {kind : Int} (h0 : 0 ≤ kind) (h1 : kind ≤ 4) (l : List UInt8) : ValR ⟨l.toArray⟩ kind (valF kind l).1 (valF kind l).2 := by
  have := valR_any ⟨l.toArray⟩ kind h0 h1
  rw [bytes_mk] at this
  exact this
theorem cut_len (s sep : List UInt8) : (Lib.cut s sep).1.length ≤ s.length ∧ (Lib.cut s sep).2.1.length ≤ s.length := by
  unfold Lib.cut
  split
  · simp; omega
  · simp
theorem lexLo_nn (kind : Int) : 0 ≤ lexLo kind := by unfold lexLo; split <;> omega
theorem lexHi_le (kind : Int) : lexHi kind ≤ 59 := by unfold lexHi; repeat' split <;> omega

/-- What an item is cut into, as field.item.split has it. -/
theorem cut_is (t : ByteArray) (hs : t.size < 4294967281) : ∃ row, CutIs t ⟨(Lib.cut t.data.toList [47]).1.toArray⟩ ⟨(Lib.cut t.data.toList [47]).2.1.toArray⟩ (Lib.cut t.data.toList [47]).2.2 (splitL 45 (Lib.cut t.data.toList [47]).1).length row (decide ((47 : UInt8) ∈ (Lib.cut t.data.toList [47]).2.1))
    ∧ row = ((splitL 45 (Lib.cut t.data.toList [47]).1).map fun l => Value.string ⟨l.toArray⟩).toArray := by
  have hl := cut_len t.data.toList [47]
  have hz := size_toList t
  refine ⟨_, ⟨rfl, by show (Lib.cut t.data.toList [47]).1.toArray.size < _; simp; omega, by show (Lib.cut t.data.toList [47]).2.1.toArray.size < _; simp; omega, contains_one 47 _, countB_of 45 _, rfl⟩, ?_⟩
  rw [splitB_of 45 ⟨(Lib.cut t.data.toList [47]).1.toArray⟩ ((splitL 45 (Lib.cut t.data.toList [47]).1).map fun l => ⟨l.toArray⟩) (by rw [bytes_mk, List.map_map]; simp [Function.comp_def])]
  rw [List.map_map]
  rfl

theorem ends_cases (kind : Int) (h0 : 0 ≤ kind) (h1 : kind ≤ 4) (a : List UInt8) (hn : (splitL 45 a).length ≤ 2) :
    ((endsF kind a).2.2 = 0 ∧ lexLo kind ≤ (endsF kind a).1 ∧ (endsF kind a).2.1 ≤ lexHi kind ∧ ValsOk kind ⟨a.toArray⟩ (splitL 45 a).length ((splitL 45 a).map fun l => Value.string ⟨l.toArray⟩).toArray (endsF kind a).1 (endsF kind a).2.1)
    ∨ ((endsF kind a).2.2 ≠ 0 ∧ ValsBad kind ⟨a.toArray⟩ (splitL 45 a).length ((splitL 45 a).map fun l => Value.string ⟨l.toArray⟩).toArray (endsF kind a).2.2) := by
  unfold endsF
  by_cases hst : a = [42]
  · rw [if_pos hst]
    exact .inl ⟨rfl, Int.le_refl _, Int.le_refl _, .inl ⟨by rw [ByteArray.toList_eq]; exact hst, rfl, rfl⟩⟩
  · rw [if_neg hst]
    have hst' : (⟨a.toArray⟩ : ByteArray).toList ≠ [42] := by rw [ByteArray.toList_eq]; exact hst
    cases hsp : splitL 45 a with
    | nil => exact absurd hsp (splitL_ne 45 a)
    | cons e0 r =>
      cases r with
      | nil =>
        simp only
        by_cases c0 : (valF kind e0).2 = 0
        · rw [if_neg (by simpa using c0)]
          have hb := valF_bd c0
          exact .inl ⟨rfl, hb.1, hb.2, .inr (.inl ⟨hst', rfl, rfl, _, rfl, valIs_of h0 h1 c0⟩)⟩
        · rw [if_pos c0]
          exact .inr ⟨c0, hst', c0, .inl ⟨Nat.le_refl _, _, _, rfl, valR_of h0 h1 e0⟩⟩
      | cons e1 r =>
        cases r with
        | cons e2 r => rw [hsp] at hn; simp at hn
        | nil =>
          simp only
          by_cases c0 : (valF kind e0).2 = 0
          · rw [if_neg (by simpa using c0)]
            have hb := valF_bd c0
            by_cases c1 : (valF kind e1).2 = 0
            · rw [if_neg (by simpa using c1)]
              have hb1 := valF_bd c1
              by_cases c2 : (valF kind e1).1 < (valF kind e0).1
              · rw [if_pos c2]
                exact .inr ⟨by simp, hst', by simp, .inr (.inr ⟨rfl, rfl, _, _, _, _, rfl, valIs_of h0 h1 c0, valIs_of h0 h1 c1, c2⟩)⟩
              · rw [if_neg c2]
                exact .inl ⟨rfl, hb.1, hb1.2, .inr (.inr ⟨hst', rfl, by simp only; omega, _, _, rfl, valIs_of h0 h1 c0, valIs_of h0 h1 c1⟩)⟩
            · rw [if_pos c1]
              exact .inr ⟨c1, hst', c1, .inr (.inl ⟨rfl, _, _, _, _, rfl, valIs_of h0 h1 c0, valR_of h0 h1 e1⟩)⟩
          · rw [if_pos c0]
            exact .inr ⟨c0, hst', c0, .inl ⟨by simp, _, _, rfl, valR_of h0 h1 e0⟩⟩

theorem item_cases (kind : Int) (h0 : 0 ≤ kind) (h1 : kind ≤ 4) (t : ByteArray) (hs : t.size < 4294967281) :
    (itemE kind t.data.toList = 0 ∧ ItemOk kind t (itemF kind t.data.toList).1 (itemF kind t.data.toList).2.1 (itemF kind t.data.toList).2.2.1) ∨ (itemE kind t.data.toList ≠ 0 ∧ ItemBad kind t (itemE kind t.data.toList)) := by
  obtain ⟨row, hc, hrow⟩ := cut_is t hs
  unfold itemE itemF
  generalize Lib.cut t.data.toList [47] = c at *
  obtain ⟨a, be, cut⟩ := c
  simp only at hc hrow ⊢
  by_cases hform : (47 : UInt8) ∈ be ∨ 2 < (splitL 45 a).length ∨ (cut = true ∧ a ≠ [42] ∧ (splitL 45 a).length < 2)
  · rw [if_pos hform]
    refine .inr ⟨by simp, h0, h1, hs, _, _, _, _, _, _, hc, .inl ⟨rfl, ?_⟩⟩
    by_cases m : (47 : UInt8) ∈ be
    · exact .inl (by simpa using m)
    · have m' : decide ((47 : UInt8) ∈ be) = false := by simpa using m
      by_cases l2 : 2 < (splitL 45 a).length
      · exact .inr (.inl ⟨m', l2⟩)
      · rcases hform with hf | hf | ⟨f1, f2, f3⟩
        · exact absurd hf m
        · exact absurd hf l2
        · exact .inr (.inr ⟨m', by omega, f1, by rw [ByteArray.toList_eq]; exact f2, f3⟩)
  · rw [if_neg hform]
    simp only [not_or, not_and, Nat.not_lt] at hform
    obtain ⟨m, l2, hf⟩ := hform
    have m' : decide ((47 : UInt8) ∈ be) = false := by simpa using m
    rw [m'] at hc
    have hf' : cut = true → (⟨a.toArray⟩ : ByteArray).toList ≠ [42] → (splitL 45 a).length = 2 := fun q1 q2 => by
      rw [ByteArray.toList_eq] at q2
      have := hf q1 q2
      omega
    rcases ends_cases kind h0 h1 a l2 with ⟨e0, elo, ehi, hv⟩ | ⟨e0, hv⟩
    · rw [if_neg (by simpa using e0)]
      rw [← hrow] at hv
      have hlo := lexLo_nn kind
      have hhi := lexHi_le kind
      cases cut
      · rw [if_pos rfl]
        refine .inl ⟨rfl, h0, h1, by simp only; omega, by simp only; omega, by simp, by simp, hs, ?_⟩
        obtain ⟨q1, q2, q3, q4, q5, q6⟩ := hc
        exact ⟨_, _, _, _, _, q1, q2, q3, q4, q5, q6, l2, hf', hv, .inl ⟨rfl, rfl⟩⟩
      · rw [if_neg (by decide)]
        by_cases n0 : (numL be).2 = 0
        · rw [if_neg (by simpa using n0)]
          have en : numL be = ((numL be).1, 0) := by rw [← n0]
          have hb := numL_bd en
          by_cases n1 : (numL be).1 = 0
          · rw [if_pos n1]
            exact .inr ⟨by simp, h0, h1, hs, _, _, _, _, _, _, hc, .inr ⟨rfl, l2, hf', .inr ⟨⟨_, _, hv⟩, rfl, _, _, en, .inr ⟨rfl, n1, rfl⟩⟩⟩⟩
          · rw [if_neg n1]
            refine .inl ⟨rfl, h0, h1, by simp only; omega, by simp only; omega, by simp only; omega, by simp only; omega, hs, ?_⟩
            obtain ⟨q1, q2, q3, q4, q5, q6⟩ := hc
            exact ⟨_, _, _, _, _, q1, q2, q3, q4, q5, q6, l2, hf', hv, .inr ⟨rfl, en, n1⟩⟩
        · rw [if_pos n0]
          exact .inr ⟨n0, h0, h1, hs, _, _, _, _, _, _, hc, .inr ⟨rfl, l2, hf', .inr ⟨⟨_, _, hv⟩, rfl, (numL be).1, (numL be).2, rfl, .inl ⟨n0, rfl⟩⟩⟩⟩
    · rw [if_pos e0]
      rw [← hrow] at hv
      exact .inr ⟨e0, h0, h1, hs, _, _, _, _, _, _, hc, .inr ⟨rfl, l2, hf', .inl hv⟩⟩

theorem splitL_le (b : UInt8) : ∀ (l : List UInt8), ∀ x ∈ splitL b l, x.length ≤ l.length
  | [], x, h => by simp [splitL] at h; subst h; simp
  | c :: l, x, h => by
    have ih := splitL_le b l
    unfold splitL at h
    split at h
    · rcases List.mem_cons.1 h with rfl | h
      · simp
      · have := ih x h; simp; omega
    · cases hs : splitL b l with
      | nil => exact absurd hs (splitL_ne b l)
      | cons h0 t =>
        rw [hs] at h ih
        rcases List.mem_cons.1 h with rfl | h
        · have := ih h0 (by simp); simp; omega
        · have := ih x (by simp [h]); simp; omega
/-- The items, as field.Parse reads them. -/
def itsF (kind : Int) (ts : List ByteArray) : List It := ts.map fun t => (t, (itemF kind t.data.toList).1, (itemF kind t.data.toList).2.1, (itemF kind t.data.toList).2.2.1)
theorem itsF_ok (kind : Int) : ∀ (ts : List ByteArray) (b : Int), (∀ t ∈ ts, itemE kind t.data.toList = 0) → itemsF kind b (ts.map (·.data.toList)) = (bitsI kind b (itsF kind ts), 0)
  | [], b, _ => rfl
  | t :: ts, b, h => by
    have h0 := h t (by simp)
    have ih := itsF_ok kind ts (bitsV b (valsI kind (itemF kind t.data.toList).1 (itemF kind t.data.toList).2.1 (itemF kind t.data.toList).2.2.1)) (fun x hx => h x (by simp [hx]))
    simp only [List.map_cons, itemsF]
    rw [if_neg (by simpa using h0), ih]
    rfl
theorem itsF_bad (kind : Int) : ∀ (pre : List ByteArray) (t : ByteArray) (rest : List ByteArray) (b : Int), (∀ x ∈ pre, itemE kind x.data.toList = 0) → itemE kind t.data.toList ≠ 0 → itemsF kind b ((pre ++ t :: rest).map (·.data.toList)) = (0, itemE kind t.data.toList)
  | [], t, rest, b, _, h => by simp only [List.nil_append, List.map_cons, itemsF]; rw [if_pos h]
  | x :: pre, t, rest, b, hp, h => by
    have h0 := hp x (by simp)
    simp only [List.cons_append, List.map_cons, itemsF]
    rw [if_neg (by simpa using h0)]
    exact itsF_bad kind pre t rest _ (fun y hy => hp y (by simp [hy])) h
theorem first_bad {α : Type} (p : α → Prop) : ∀ (l : List α), (∀ x ∈ l, p x) ∨ ∃ pre x rest, l = pre ++ x :: rest ∧ (∀ y ∈ pre, p y) ∧ ¬ p x
  | [] => .inl (by simp)
  | x :: l => by
    by_cases hx : p x
    · rcases first_bad p l with h | ⟨pre, y, rest, rfl, h1, h2⟩
      · exact .inl (fun y hy => (List.mem_cons.1 hy).elim (fun e => e ▸ hx) (fun hy => h y hy))
      · exact .inr ⟨x :: pre, y, rest, rfl, fun z hz => (List.mem_cons.1 hz).elim (fun e => e ▸ hx) (fun hz => h1 z hz), h2⟩
    · exact .inr ⟨[], x, l, rfl, by simp, hx⟩
theorem parse_any (s : ByteArray) (kind : Int) (w : World) (h0 : 0 ≤ kind) (h1 : kind ≤ 4) (hE : Env w) (hEr : ErrV w) (h8 : 8 ≤ w.heap.size) (hs : s.size ≤ 256) :
    Calls Tryz.prog 33 #[.string s, .int .i64 kind] w fun e w' => e = .returned (.tuple #[.agg #[.int .u64 (parseF kind s.data.toList).1, .bool (parseF kind s.data.toList).2.1], .int .i64 (parseF kind s.data.toList).2.2]) ∧ Below w.heap.size w w' := by
  have hsp := splitB_list 44 s
  have hcn := countB_of 44 s
  have hlen := splitL_len 44 s.data.toList
  have hz := size_toList s
  generalize hts : Lib.splitB ⟨#[44]⟩ 0 (Lib.countB s ⟨#[44]⟩) s = ts at *
  have htl : ts.length = (splitL 44 s.data.toList).length := by rw [← hsp]; simp
  have hsm : ∀ t ∈ ts, t.size < 4294967281 := fun t ht => by
    have := splitL_le 44 s.data.toList t.data.toList (by rw [← hsp]; exact List.mem_map_of_mem ht)
    have := size_toList t
    omega
  have hst : s.toList = s.data.toList := ByteArray.toList_eq _
  unfold parseF
  rw [← hsp]
  rcases first_bad (fun t : ByteArray => itemE kind t.data.toList = 0) ts with hg | ⟨pre, t, rest, rfl, hg, hb⟩
  · rw [itsF_ok kind ts 0 hg, if_pos rfl]
    refine parse_ok s kind w (s.data.toList == [42]) (itsF kind ts) h0 h1 hE h8 (by omega) (by rw [hst]) (by rw [hts]; simp [itsF, Function.comp_def]) (by rw [hcn, ← htl]; simp [itsF]) (by simp [itsF]; omega) ?_
    intro x hx
    obtain ⟨t, ht, rfl⟩ := List.mem_map.1 hx
    rcases item_cases kind h0 h1 t (hsm t ht) with ⟨_, h⟩ | ⟨h, _⟩
    · exact h
    · exact absurd (hg t ht) h
  · rw [itsF_bad kind pre t rest 0 hg hb, if_neg hb]
    have hib : ItemBad kind t (itemE kind t.data.toList) := by
      rcases item_cases kind h0 h1 t (hsm t (by simp)) with ⟨h, _⟩ | ⟨_, h⟩
      · exact absurd h hb
      · exact h
    refine parse_bad s kind (itemE kind t.data.toList) w (s.data.toList == [42]) (itsF kind pre) t rest hEr hib h0 h1 hE h8 (by omega) (by rw [hst]) (by rw [hts]; simp [itsF, Function.comp_def]) (by rw [hcn, ← htl]; simp [itsF]) (by simp [itsF]; simp at htl; omega) ?_
    intro x hx
    obtain ⟨y, hy, rfl⟩ := List.mem_map.1 hx
    rcases item_cases kind h0 h1 y (hsm y (by simp [hy])) with ⟨_, h⟩ | ⟨h, _⟩
    · exact h
    · exact absurd (hg y hy) h

end Go.Proofs.YtkdejfedigiohaaGreatDoor
