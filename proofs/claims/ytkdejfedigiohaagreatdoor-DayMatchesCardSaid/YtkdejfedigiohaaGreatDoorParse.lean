/- field.Parse at a text all of whose items are in order. -/
import Derived.Test.YtkdejfedigiohaaGreatDoorEach
import Derived.Test.YtkdejfedigiohaaGreatDoorItem3
import Derived.Test.YtkdejfedigiohaaGreatDoorFld
namespace Go.Proofs.YtkdejfedigiohaaGreatDoor
open Go.RowKit Go.Proofs.YtkdejfedigiohaaGreatDoorW.PrintWords Go.Proofs.YtkdejfedigiohaaGreatDoorW.PrintLast Go.Proofs.YtkdejfedigiohaaGreatDoorW.PrintMore
set_option linter.unusedVariables false
set_option linter.unusedSimpArgs false

attribute [local go_sem] Oper.semAt_some

/-- What an item's ends come to. -/
def ValsOk (kind : Int) (a : ByteArray) (n : Nat) (row : Array Value) (lo hi : Int) : Prop :=
  (a.toList = [42] ∧ lo = lexLo kind ∧ hi = lexHi kind) ∨ (a.toList ≠ [42] ∧ n = 1 ∧ hi = lo ∧ ∃ e0, row = #[.string e0] ∧ ValIs e0 kind lo)
  ∨ (a.toList ≠ [42] ∧ n = 2 ∧ lo ≤ hi ∧ ∃ e0 e1, row = #[.string e0, .string e1] ∧ ValIs e0 kind lo ∧ ValIs e1 kind hi)
def StepOk (be : ByteArray) (cut : Bool) (st : Int) : Prop := (cut = false ∧ st = 1) ∨ (cut = true ∧ numL be.data.toList = (st, 0) ∧ st ≠ 0)
/-- An item in order: it comes to the values from lo to hi, each st-th. -/
structure ItemOk (kind : Int) (t : ByteArray) (lo hi st : Int) : Prop where
  k0 : 0 ≤ kind
  k1 : kind ≤ 4
  lo0 : 0 ≤ lo
  hi1 : hi ≤ 59
  st0 : 1 ≤ st
  st1 : st ≤ 9999
  size : t.size < 4294967281
  ex : ∃ (a be : ByteArray) (cut : Bool) (n : Nat) (row : Array Value), Lib.cut t.data.toList [47] = (a.data.toList, be.data.toList, cut) ∧ a.size < 4294967281 ∧ be.size < 4294967281
    ∧ Lib.contains be.data.toList [47] = false ∧ Lib.countB a ⟨#[45]⟩ + 1 = n ∧ ((Lib.splitB ⟨#[45]⟩ 0 (Lib.countB a ⟨#[45]⟩) a).map Value.string).toArray = row ∧ n ≤ 2 ∧ (cut = true → a.toList ≠ [42] → n = 2)
    ∧ ValsOk kind a n row lo hi ∧ StepOk be cut st

def S0 (kind : Int) (t : ByteArray) (W : World) (b : Nat) : Prop := ItB W b t ⟨#[]⟩ ⟨#[]⟩ false (.slice none 0 0) kind 0 0 0
def S1 (kind : Int) (t : ByteArray) (lo hi st : Int) (W : World) (b : Nat) : Prop :=
  ∃ (a be : ByteArray) (cut : Bool) (g n : Nat) (row : Array Value), ItB W b t a be cut (.slice (some ⟨g, 0, none⟩) n n) kind 0 0 0 ∧ W.heap[g]? = some (.cells row 9 (0, 0)) ∧ g ≠ b ∧ ValsOk kind a n row lo hi ∧ StepOk be cut st
def S2 (kind : Int) (t : ByteArray) (lo hi st : Int) (W : World) (b : Nat) : Prop :=
  ∃ (a be : ByteArray) (cut : Bool) (ends : Value), ItB W b t a be cut ends kind lo hi 0 ∧ StepOk be cut st
def S3 (kind : Int) (t : ByteArray) (lo hi st : Int) (W : World) (b : Nat) : Prop :=
  ∃ (a be : ByteArray) (cut : Bool) (ends : Value), ItB W b t a be cut ends kind lo hi st

theorem read_split {kind : Int} {t : ByteArray} {lo hi st : Int} (h : ItemOk kind t lo hi st) (b : Nat) (W : World) (hE : Env W) (h8 : 8 ≤ b) (hS : S0 kind t W b) :
    Calls Tryz.prog 73 #[.pointer (some ⟨b, 0, none⟩)] W fun e w' => e = .returned .nilIface ∧ KX b W w' ∧ S1 kind t lo hi st w' b := by
  obtain ⟨a, be, cut, n, row, h1, h2, h3, h4, h5, h6, h7, h9, h10, h11⟩ := h.ex
  refine (split_ok b n row t a be cut kind W hE h8 hS h.size h1 h2 h3 h4 h5 h6 h7 h9).mono ?_
  rintro e w' ⟨rfl, g, hg, hK, hI, hr⟩
  exact ⟨rfl, hK, a, be, cut, g, n, row, hI, hr, by have := blk_lt (show W.heap[b]? = _ from hS); omega, h10, h11⟩

theorem read_values {kind : Int} {t : ByteArray} {lo hi st : Int} (h : ItemOk kind t lo hi st) (b : Nat) (W : World) (hS : S1 kind t lo hi st W b) :
    Calls Tryz.prog 74 #[.pointer (some ⟨b, 0, none⟩)] W fun e w' => e = .returned .nilIface ∧ KX b W w' ∧ S2 kind t lo hi st w' b := by
  obtain ⟨a, be, cut, g, n, row, hI, hr, hgb, hv, hst⟩ := hS
  rcases hv with ⟨h1, rfl, rfl⟩ | ⟨h1, rfl, rfl, e0, rfl, hv⟩ | ⟨h1, rfl, hord, e0, e1, rfl, hv, hv2⟩
  · refine (values_star b g n t a be cut kind W h.k0 h.k1 hI h1).mono ?_
    rintro e w' ⟨rfl, hK, hI'⟩
    exact ⟨rfl, hK, a, be, cut, _, hI', hst⟩
  · refine (values_one b g t a be e0 cut kind _ W h.k0 h.k1 hI hr hgb h1 hv).mono ?_
    rintro e w' ⟨rfl, hK, hI'⟩
    exact ⟨rfl, hK, a, be, cut, _, hI', hst⟩
  · refine (values_two b g t a be e0 e1 cut kind _ _ W h.k0 h.k1 hI hr hgb h1 hv hv2 hord).mono ?_
    rintro e w' ⟨rfl, hK, hI'⟩
    exact ⟨rfl, hK, a, be, cut, _, hI', hst⟩

theorem read_step {kind : Int} {t : ByteArray} {lo hi st : Int} (b : Nat) (W : World) (hS : S2 kind t lo hi st W b) :
    Calls Tryz.prog 75 #[.pointer (some ⟨b, 0, none⟩)] W fun e w' => e = .returned .nilIface ∧ KX b W w' ∧ S3 kind t lo hi st w' b := by
  obtain ⟨a, be, cut, ends, hI, hst⟩ := hS
  rcases hst with ⟨rfl, rfl⟩ | ⟨rfl, h1, h2⟩
  · refine (step_plain b t a be ends kind lo hi W hI).mono ?_
    rintro e w' ⟨rfl, hK, hI'⟩
    exact ⟨rfl, hK, a, be, _, _, hI'⟩
  · refine (step_cut b t a be ends kind lo hi st W hI h1 h2).mono ?_
    rintro e w' ⟨rfl, hK, hI'⟩
    exact ⟨rfl, hK, a, be, _, _, hI'⟩

theorem eg_sp (args : Array Value) (w : World) : (callFunc 73 args).run Tryz.prog w = .ok (.enter 73 args) w := by kernel_rfl
theorem eg_va (args : Array Value) (w : World) : (callFunc 74 args).run Tryz.prog w = .ok (.enter 74 args) w := by kernel_rfl
theorem eg_st (args : Array Value) (w : World) : (callFunc 75 args).run Tryz.prog w = .ok (.enter 75 args) w := by kernel_rfl
theorem eg_ea1 (args : Array Value) (w : World) : (callFunc 112 args).run Tryz.prog w = .ok (.enter 112 args) w := by kernel_rfl

theorem blk_new2' (w : World) (o : Obj) (k : Nat) (h : w.heap.size = k) : (w.alloc o).heap[k]? = some o := h ▸ blk_new w o
theorem flimits_q (kind : Int) (w : World) (h0 : 0 ≤ kind) (h1 : kind ≤ 4) :
    Calls Tryz.prog 70 #[.int .i64 kind] w fun e w' => e = .returned (.tuple #[.int .i64 (lexLo kind), .int .i64 (hiI kind), .int .i64 0]) ∧ w = w' := by
  by_cases h4 : kind = 4
  · subst h4
    go_enter Tryz.func70, Tryz.ntmps70
    go_wp2_with (go_at_call 104; refine (limits_q 4 _ (by decide) (by decide)).mono ?_; rintro e w' ⟨rfl, rfl⟩)
    go_ret3
    exact ⟨rfl, rfl⟩
  · have hb : (kind == 4) = false := by simpa using h4
    rw [show hiI kind = lexHi kind by unfold hiI lexHi; repeat' split <;> omega]
    go_enter Tryz.func70, Tryz.ntmps70
    go_wp2_with (go_at_call 104; refine (limits_q kind _ h0 h1).mono ?_; rintro e w' ⟨rfl, rfl⟩)
    go_ret3
    exact ⟨rfl, rfl⟩

/-- The bits of values. -/
def orB (b x : Int) : Int := bits .or .u64 b (IntKind.u64.wrap (2 ^ min (IntKind.u64.wrap x).toNat 64))
def bitsV (b : Int) (l : List Int) : Int := l.foldl orB b
abbrev It := ByteArray × Int × Int × Int
def bitsI (kind : Int) (b : Int) (L : List It) : Int := L.foldl (fun b x => bitsV b (valsI kind x.2.1 x.2.2.1 x.2.2.2)) b

/-- The marks that loops over functions leave: each an empty list of deferred calls. -/
def Marks (B : Nat) (ds : List Deferred) (W : World) : Prop := ds.Nodup ∧ ∀ d ∈ ds, ∃ r, d = { target := .collected r, args := #[] } ∧ B ≤ r ∧ W.heap[r]? = some (.deferred (some []))
theorem Marks.nil (B : Nat) (W : World) : Marks B [] W := ⟨List.nodup_nil, fun d h => by cases h⟩
theorem Marks.kx {B : Nat} {ds : List Deferred} {W W' : World} (h : Marks B ds W) (hk : ∀ r : Nat, W.heap[r]? = some (Obj.deferred (some [])) → W'.heap[r]? = some (Obj.deferred (some []))) : Marks B ds W' :=
  ⟨h.1, fun d hd => let ⟨r, e, hr, hw⟩ := h.2 d hd; ⟨r, e, hr, hk r hw⟩⟩
theorem Marks.cons {B D : Nat} {ds : List Deferred} {V W : World} (h : Marks B ds V) (hk : ∀ r : Nat, V.heap[r]? = some (Obj.deferred (some [])) → W.heap[r]? = some (Obj.deferred (some []))) (hB : B ≤ V.heap.size) (hD : V.heap.size ≤ D)
    (hW : W.heap[D]? = some (.deferred (some []))) : Marks B ({ target := .collected D, args := #[] } :: ds) W := by
  refine ⟨List.nodup_cons.2 ⟨fun hd => ?_, h.1⟩, fun d hd => ?_⟩
  · obtain ⟨r, e, _, hr⟩ := h.2 _ hd
    have := blk_lt hr
    injection e with e1 _
    injection e1 with e2
    omega
  · rcases List.mem_cons.1 hd with rfl | hd
    · exact ⟨D, rfl, by omega, hW⟩
    · exact (h.kx hk).2 d hd
theorem leaves_parse (w : World) (bs : Int) (star : Bool) (tmps : Array Value) (t4 : tmps[4]?.getD undef = .pointer (some ⟨w.heap.size, 0, none⟩)) (t5 : tmps[5]?.getD undef = .int .i64 0) : ∀ (ds : List Deferred) (W : World),
    Marks w.heap.size ds W → Below w.heap.size w W → W.heap[w.heap.size]? = some (.cells #[.int .u64 bs, .bool star] 24 (0, 0)) →
    LeavesInM Fence.wide 9 Tryz.prog Tryz.f33 tmps (fun e w' => e = .returned (.tuple #[.agg #[.int .u64 bs, .bool star], .int .i64 0]) ∧ Below w.heap.size w w') ds .returning W
  | [], W, _, hB, hR => by
    have c0 : W.cell? ⟨w.heap.size, 0, none⟩ = some (.int .u64 bs) := blk_cell hR 0
    have c1 : W.cell? ⟨w.heap.size, 1, none⟩ = some (.bool star) := blk_cell hR 1
    exact ⟨_, (by simp [results, Tryz.results33, go_sem, t4, t5, c0, c1]), rfl, hB⟩
  | d :: ds, W, hM, hB, hR => by
    obtain ⟨r, rfl, hr, hw⟩ := hM.2 d (by simp)
    have hne : r ≠ w.heap.size := by rintro rfl; rw [hw] at hR; cases hR
    refine ⟨by simp, .inl ⟨r, _, rfl, run_takeDeferred hw, leaves_parse w bs star tmps t4 t5 ds _ ⟨(List.nodup_cons.1 hM.1).2, fun d hd => ?_⟩ (hB.trans (belowK_b (w := w) (Nat.le_refl _) W r _ _ hr hw rfl rfl)) ((World.putObj_heap_other (Ne.symm hne)).trans hR)⟩⟩
    obtain ⟨r', rfl, hr', hw'⟩ := hM.2 d (by simp [hd])
    refine ⟨r', rfl, hr', (World.putObj_heap_other ?_).trans hw'⟩
    rintro rfl
    exact (List.nodup_cons.1 hM.1).1 hd

/-- What a round of the outer loop keeps, while the item's box bi is written. -/
structure InP (w : World) (sb bi : Nat) (star : Bool) (bs : Int) (row : Array Value) (ds : List Deferred) (V : World) : Prop where
  below : Below w.heap.size w V
  r : V.heap[w.heap.size]? = some (.cells #[.int .u64 0, .bool false] 24 (0, 0))
  f : V.heap[w.heap.size + 1]? = some (.cells #[.int .u64 bs, .bool star] 24 (0, 0))
  s : V.heap[sb]? = some (.cells row 9 (0, 0))
  m : Marks w.heap.size ds V
  c : ∃ cs t, V.heap[bi]? = some (.cells cs t (0, 0))
  fn : V.heap[bi + 1]? = some (.cells #[.func (.func 73) #[.pointer (some ⟨bi, 0, none⟩)] #[], .func (.func 74) #[.pointer (some ⟨bi, 0, none⟩)] #[], .func (.func 75) #[.pointer (some ⟨bi, 0, none⟩)] #[]] 111 (0, 0))
  env : Env V
  lo : w.heap.size + 1 < bi
  so : sb < bi
  g8 : 8 ≤ bi
theorem InP.kx {w : World} {sb bi : Nat} {star : Bool} {bs : Int} {row : Array Value} {ds : List Deferred} {V V1 : World} (h : InP w sb bi star bs row ds V) (hk : KX bi V V1)
    (hc : ∃ cs t, V1.heap[bi]? = some (.cells cs t (0, 0))) : InP w sb bi star bs row ds V1 where
  below := h.below.trans (hk.below (Nat.le_of_lt (Nat.lt_of_succ_lt h.lo)) h.below.size)
  r := hk.blk h.r (by have := h.lo; omega)
  f := hk.blk h.f (by have := h.lo; omega)
  s := hk.blk h.s (by have := h.so; omega)
  m := h.m.kx fun r hr => hk.blk hr (by rintro rfl; obtain ⟨cs, t, hc⟩ := h.c; rw [hc] at hr; cases hr)
  c := hc
  fn := hk.blk h.fn (by omega)
  env := h.env.kx hk h.g8
  lo := h.lo
  so := h.so
  g8 := h.g8

/-- What a round of the loop over the item's values keeps. -/
structure RngI (w V : World) (sb : Nat) (star : Bool) (bs : Int) (row : Array Value) (pre : List Int) (W : World) : Prop where
  below : Below w.heap.size w W
  size : V.heap.size ≤ W.heap.size
  r : W.heap[w.heap.size]? = some (.cells #[.int .u64 0, .bool false] 24 (0, 0))
  f : W.heap[w.heap.size + 1]? = some (.cells #[.int .u64 (bitsV bs pre), .bool star] 24 (0, 0))
  s : W.heap[sb]? = some (.cells row 9 (0, 0))
  m : ∀ r : Nat, V.heap[r]? = some (Obj.deferred (some [])) → W.heap[r]? = some (Obj.deferred (some []))
theorem rngI_own {w V : World} {sb : Nat} {star : Bool} {bs : Int} {row : Array Value} (h1 : w.heap.size + 1 < V.heap.size) (h2 : sb < V.heap.size) : OwnFrom V.heap.size (fun pre W => RngI w V sb star bs row pre W) := by
  intro pre W W' r hI hg hr
  have hb : ∀ (k : Nat) (o : Obj), k < V.heap.size → W.heap[k]? = some o → W'.heap[k]? = some o := fun k o hk ho => by
    rw [hg.block k (Nat.lt_of_lt_of_le hk hI.size) (by intro e; have := (hr k e.symm).1; omega), ho]
  exact ⟨hI.below.grown hg (Nat.le_trans (by omega) hI.size) (fun k e => Nat.le_trans (by omega) (hr k e).1), Nat.le_trans hI.size hg.size, hb _ _ (by omega) hI.r, hb _ _ h1 hI.f, hb _ _ h2 hI.s, fun k hk => hb k _ (blk_lt hk) (hI.m k hk)⟩

set_option maxRecDepth 100000 in
set_option maxHeartbeats 2000000 in
theorem parse_ok (s : ByteArray) (kind : Int) (w : World) (star : Bool) (L : List It) (h0 : 0 ≤ kind) (h1 : kind ≤ 4) (hE : Env w) (h8 : 8 ≤ w.heap.size) (hs : s.size < 4294967281) (hstar : (s.toList == [42]) = star)
    (hL : Lib.splitB ⟨#[44]⟩ 0 (Lib.countB s ⟨#[44]⟩) s = L.map (·.1)) (hn : Lib.countB s ⟨#[44]⟩ + 1 = L.length) (hlen : L.length < 4294967296) (hI : ∀ x ∈ L, ItemOk kind x.1 x.2.1 x.2.2.1 x.2.2.2) :
    Calls Tryz.prog 33 #[.string s, .int .i64 kind] w fun e w' => e = .returned (.tuple #[.agg #[.int .u64 (bitsI kind 0 L), .bool star], .int .i64 0]) ∧ Below w.heap.size w w' := by
  have hL0 := Lib.hid hL
  have hn0 := Lib.hid hn
  have hI0 := Lib.hid hI
  clear hL hn hI
  refine callsIn_wide.1 (callsIn_of_wp_marks (n := 9) Tryz.func33 rfl trivial ?_ rfl)
  refine wpIn_wide.2 ?_
  simp only [Tryz.ntmps33, List.size_toArray, List.length_cons, List.length_nil, Nat.reduceAdd, Nat.reduceSub, Array.replicate_succ, Array.replicate_zero, List.push_toArray, List.append_toArray, List.nil_append, List.cons_append]
  go_wp2_with fail
  refine (flimits_q kind _ h0 h1).mono ?_
  rintro e w1 ⟨rfl, rfl⟩
  go_wp2_with fail
  generalize hW : (w.alloc (.cells #[.int .u64 0, .bool false] 24)).alloc (.cells #[.int .u64 0, .bool star] 24) = W1
  have hb1 : Below w.heap.size w W1 := by subst hW; exact ((Below.refl _ _).alloc (Nat.le_refl _) _).alloc (by simp) _
  have hR1 : W1.heap[w.heap.size]? = some (.cells #[.int .u64 0, .bool false] 24 (0, 0)) := by subst hW; exact blk_alloc (blk_new _ _) _
  have hF1 : W1.heap[w.heap.size + 1]? = some (.cells #[.int .u64 0, .bool star] 24 (0, 0)) := by subst hW; exact blk_new2' _ _ _ (by simp)
  have hE1 := hE.below hb1
  clear hW
  obtain ⟨m, hm⟩ := hE1.maxLen
  have hsp := Tryz.strings_Split s ⟨#[44]⟩ m W1 hs hm (by decide)
  rw [hL0.out, hn0.out, List.map_map] at hsp
  refine hsp.mono ?_
  clear hm hsp
  rintro e w1 ⟨rfl, rfl⟩
  generalize hW : W1.alloc (.cells (List.map (Value.string ∘ fun x : It => x.1) L).toArray 9) = W2
  have hb2 : Below w.heap.size w W2 := by subst hW; exact hb1.alloc hb1.size _
  have hR2 : W2.heap[w.heap.size]? = some (.cells #[.int .u64 0, .bool false] 24 (0, 0)) := by subst hW; exact blk_alloc hR1 _
  have hF2 : W2.heap[w.heap.size + 1]? = some (.cells #[.int .u64 0, .bool star] 24 (0, 0)) := by subst hW; exact blk_alloc hF1 _
  have hS2 : W2.heap[W1.heap.size]? = some (.cells (List.map (Value.string ∘ fun x : It => x.1) L).toArray 9 (0, 0)) := by subst hW; exact blk_new _ _
  have hE2 := hE.below hb2
  have hlt1 := blk_lt hF1
  clear hW hR1 hF1 hE1 hb1
  go_wp2_with fail
  refine wp_loop (fun a W => ∃ (k : Nat) (ds : List Deferred) (u11 u12 u14 u15 u16 u34 u35 u36 u37 u38 u39 u40 u41 u42 u43 u44 u45 u46 u47 u48 u49 u50 u51 u52 u53 u54 u55 u56 u57 u58 u59 u60 u61 u62 u63 u64 u65 u66 u67 u68 u69 u70 u71 : Value), a = { tmps := #[.string s, .int .i64 kind, undef, undef, .pointer (some ⟨w.heap.size, 0, none⟩), .int .i64 0, .int .i64 (lexLo kind), .int .i64 (hiI kind), .int .i64 0, .pointer (some ⟨w.heap.size + 1, 0, none⟩), undef, u11, u12, undef, u14, u15, u16, .tuple #[.int .i64 (lexLo kind), .int .i64 (hiI kind), .int .i64 0], .int .i64 kind, .tuple #[.int .i64 (lexLo kind), .int .i64 (hiI kind), .int .i64 0], .int .i64 (lexLo kind), .int .i64 (hiI kind), .int .i64 0, .int .i64 0, .bool false, undef, undef, .string s, .bool star, .agg #[.int .u64 0, .bool star], .string s, .slice (some ⟨W1.heap.size, 0, none⟩) L.length L.length, .int .i64 L.length, .int .i64 k, u34, u35, u36, u37, u38, u39, u40, u41, u42, u43, u44, u45, u46, u47, u48, u49, u50, u51, u52, u53, u54, u55, u56, u57, u58, u59, u60, u61, u62, u63, u64, u65, u66, u67, u68, u69, u70, u71, undef], defers := ds } ∧ k ≤ L.length ∧ Marks w.heap.size ds W ∧ Below w.heap.size w W
      ∧ W.heap[w.heap.size]? = some (.cells #[.int .u64 0, .bool false] 24 (0, 0)) ∧ W.heap[w.heap.size + 1]? = some (.cells #[.int .u64 (bitsI kind 0 (L.take k)), .bool star] 24 (0, 0))
      ∧ W.heap[W1.heap.size]? = some (.cells (List.map (Value.string ∘ fun x : It => x.1) L).toArray 9 (0, 0))) (fun a _ => L.length - (intOf (a.tmps.getD 33 undef)).toNat) ?_ ?_
  · exact ⟨0, [], undef, undef, undef, undef, undef, undef, undef, undef, undef, undef, undef, undef, undef, undef, undef, undef, undef, undef, undef, undef, undef, undef, undef, undef, undef, undef, undef, undef, undef, undef, undef, undef, undef, undef, undef, undef, undef, undef, undef, undef, undef, undef, undef, rfl, Nat.zero_le _, Marks.nil _ _, hb2, hR2, hF2, hS2⟩
  · rintro a W ⟨k, ds, u11, u12, u14, u15, u16, u34, u35, u36, u37, u38, u39, u40, u41, u42, u43, u44, u45, u46, u47, u48, u49, u50, u51, u52, u53, u54, u55, u56, u57, u58, u59, u60, u61, u62, u63, u64, u65, u66, u67, u68, u69, u70, u71, rfl, hk, hM, hB, hR, hF, hS⟩
    by_cases hlt : k < L.length
    · have hlt' : (k : Int) < (L.length : Int) := by omega
      obtain ⟨x, hx⟩ : ∃ x, L[k]? = some x := ⟨_, List.getElem?_eq_getElem hlt⟩
      have hcell : W.cell? ⟨W1.heap.size, k, none⟩ = some (.string x.1) := by rw [blk_cell hS]; simp [hx]
      have hItem := hI0.out x (List.mem_of_getElem? hx)
      go_wp2_with fail
      generalize hV : (W.alloc _).alloc _ = V
      have hP : InP w W1.heap.size W.heap.size star (bitsI kind 0 (L.take k)) (List.map (Value.string ∘ fun x : It => x.1) L).toArray ds V := by
        subst hV
        exact ⟨(hB.alloc hB.size _).alloc (by have := hB.size; simp; omega) _, blk_alloc (blk_alloc hR _) _, blk_alloc (blk_alloc hF _) _, blk_alloc (blk_alloc hS _) _, hM.kx fun r h => blk_alloc (blk_alloc h _) _,
          ⟨_, _, blk_alloc (blk_new _ _) _⟩, blk_new2' _ _ _ (by simp), hE.below ((hB.alloc hB.size _).alloc (by have := hB.size; simp; omega) _), blk_lt hF, blk_lt hS, by have := blk_lt hF; omega⟩
      have hS0 : S0 kind x.1 V W.heap.size := by
        subst hV
        exact blk_alloc (blk_new _ _) _
      clear hV hB hR hF hS hM hcell hE2
      generalize W.heap.size = bi at hP hS0 ⊢
      generalize hsb : W1.heap.size = sb at hP ⊢
      refine wp_loop_rounds 4 ?_
      rw [rounds_succ]
      have p0 : V.cell? ⟨bi + 1, 0, none⟩ = some (.func (.func 73) #[.pointer (some ⟨bi, 0, none⟩)] #[]) := blk_cell hP.fn 0
      go_wp2_with fail
      refine (read_split hItem bi V hP.env hP.g8 hS0).mono ?_
      clear hS0 p0
      rintro e V1 ⟨rfl, hK, hS1⟩
      have hP1 := hP.kx hK (by obtain ⟨_, _, _, _, _, _, h, _⟩ := hS1; exact ⟨_, _, h⟩)
      clear hK hP
      have p0 : V1.cell? ⟨bi + 1, 1, none⟩ = some (.func (.func 74) #[.pointer (some ⟨bi, 0, none⟩)] #[]) := blk_cell hP1.fn 1
      go_wp2_with fail
      rw [rounds_succ]
      go_wp2_with fail
      refine (read_values hItem bi V1 hS1).mono ?_
      clear hS1 p0
      rintro e V2 ⟨rfl, hK, hS2⟩
      have hP2 := hP1.kx hK (by obtain ⟨_, _, _, _, h, _⟩ := hS2; exact ⟨_, _, h⟩)
      clear hK hP1
      have p0 : V2.cell? ⟨bi + 1, 2, none⟩ = some (.func (.func 75) #[.pointer (some ⟨bi, 0, none⟩)] #[]) := blk_cell hP2.fn 2
      go_wp2_with fail
      rw [rounds_succ]
      go_wp2_with fail
      refine (read_step bi V2 hS2).mono ?_
      clear hS2 p0
      rintro e V3 ⟨rfl, hK, a, be, cut, ends, hIt⟩
      have hP3 := hP2.kx hK ⟨_, _, hIt⟩
      clear hK hP2
      go_wp2_with fail
      rw [rounds_succ]
      go_wp2_with fail
      refine (each_q bi V3).mono ?_
      rintro e V4 ⟨rfl, hV⟩
      have hP4 := hP3.kx (hV ▸ KX.alloc V3 _) ⟨_, _, hV ▸ blk_alloc hIt _⟩
      have hIt4 : ItB V4 bi x.1 a be cut ends kind x.2.1 x.2.2.1 x.2.2.2 := hV ▸ blk_alloc hIt _
      have hbp : V4.heap[V3.heap.size]? = some (.cells #[.pointer (some ⟨bi, 0, none⟩)] 108 (0, 0)) := hV ▸ blk_new _ _
      have hbb := blk_lt hIt
      clear hV hIt hP3
      generalize V3.heap.size = bp at *
      clear V3
      have hbl := blk_lt hbp
      go_wp2_with fail
      refine wpIn_wide.1 (wpIn_rangeFunc_ownF (F := Fence.wide) (n := 9) rfl (by decide) (gf := 112) (lb := #[.pointer (some ⟨bp, 0, none⟩)]) rfl trivial eg_ea1
        (each1_stops (9 - 1) (by decide) bi bp x.1 a be cut ends kind x.2.1 x.2.2.1 x.2.2.2 hItem.lo0 hItem.hi1 hItem.st0 hItem.st1 V4 hIt4 hbp) kpI_t
        (fun W l o o' hl _ _ _ => ⟨World.putObj_heap_other (by omega), World.putObj_heap_other (by omega)⟩) (Below.refl _ _) (fun _ => rfl)
        (fun pre W => RngI w V4 sb star (bitsI kind 0 (L.take k)) (List.map (Value.string ∘ fun x : It => x.1) L).toArray pre W) (fun _ _ _ => False) (rngI_own (blk_lt hP4.f) (blk_lt hP4.s)) (fun _ _ _ _ _ hs _ _ => hs)
        ⟨hP4.below, Nat.le_refl _, hP4.r, hP4.f, hP4.s, fun _ h => h⟩
        (fun v => { tmps := #[Value.string s, Value.int IntKind.i64 kind, undef, undef, Value.pointer (some { block := w.heap.size, off := 0 }), Value.int IntKind.i64 0, Value.int IntKind.i64 (lexLo kind), Value.int IntKind.i64 (hiI kind), Value.int IntKind.i64 0, Value.pointer (some { block := w.heap.size + 1, off := 0 }), undef, Value.string x.fst, Value.pointer (some { block := bi, off := 0 }), undef, Value.func (.func 75) #[Value.pointer (some { block := bi, off := 0 })] #[], Value.nilIface, .int .i64 v, Value.tuple #[Value.int IntKind.i64 (lexLo kind), Value.int IntKind.i64 (hiI kind), Value.int IntKind.i64 0], Value.int IntKind.i64 kind, Value.tuple #[Value.int IntKind.i64 (lexLo kind), Value.int IntKind.i64 (hiI kind), Value.int IntKind.i64 0], Value.int IntKind.i64 (lexLo kind), Value.int IntKind.i64 (hiI kind), Value.int IntKind.i64 0, Value.int IntKind.i64 0, Value.bool false, undef, undef, Value.string s, Value.bool star, Value.agg #[Value.int IntKind.u64 0, Value.bool star], Value.string s, Value.slice (some { block := sb, off := 0 }) L.length L.length, Value.int IntKind.i64 ↑L.length, Value.int IntKind.i64 ↑k, Value.bool true, Value.pointer (some { block := sb, off := k }), Value.string x.fst, Value.string x.fst, Value.int IntKind.i64 kind, Value.agg #[Value.string x.fst, Value.string { data := #[] }, Value.string { data := #[] }, Value.bool false, Value.slice none 0 0, Value.int IntKind.i64 kind, Value.int IntKind.i64 0, Value.int IntKind.i64 0, Value.int IntKind.i64 0], Value.pointer (some { block := bi, off := 0 }), Value.pointer (some { block := bi, off := 0 }), Value.func (.func 73) #[Value.pointer (some { block := bi, off := 0 })] #[], Value.pointer (some { block := bi, off := 0 }), Value.func (.func 74) #[Value.pointer (some { block := bi, off := 0 })] #[], Value.pointer (some { block := bi, off := 0 }), Value.func (.func 75) #[Value.pointer (some { block := bi, off := 0 })] #[], Value.slice (some { block := bi + 1, off := 0 }) 3 3, Value.int IntKind.i64 3, Value.int IntKind.i64 3, Value.bool false, Value.pointer (some { block := bi + 1, off := 2 }), Value.func (.func 75) #[Value.pointer (some { block := bi, off := 0 })] #[], Value.func (.func 75) #[Value.pointer (some { block := bi, off := 0 })] #[], Value.nilIface, Value.nilIface, Value.bool false, u57, u58, u59, Value.int IntKind.i64 3, Value.pointer (some { block := bi, off := 0 }), Value.func (.func 112) #[] #[Value.pointer (some { block := bp, off := 0 })], .int .i64 v, u64, u65, u66, u67, u68, u69, u70, u71, undef], defers := [] }) ?assign ?body ?done ?stop)
      case assign =>
        intro l v W K hK
        gi_wp2
        exact hK
      case body =>
        rintro l pre v W hI _
        have q0 : W.cell? ⟨w.heap.size + 1, 0, none⟩ = some (.int .u64 (bitsV (bitsI kind 0 (L.take k)) pre)) := blk_cell hI.f 0
        have q1 : W.frozen? ⟨w.heap.size + 1, 0, none⟩ = false := blk_frozen hI.f 0
        gi_wp2
        refine ⟨KeepsOthers.setCell _ _ _, ⟨Below.heap_setCell _ _ _ _ ?_, Below.heap_setCell _ _ _ _ ?_⟩, hI.below.setCell (p := ⟨w.heap.size + 1, 0, none⟩) (by simp) _, by have := hI.size; simp [World.setCell]; omega, blk_far hI.r (by simp) _, ?_, blk_far hI.s ?_ _, fun r hr => (Below.heap_setCell _ _ _ _ ?_).trans (hI.m r hr)⟩
        · have := hP4.lo; simp; omega
        · have := hP4.lo; simp; omega
        · rw [show bitsV (bitsI kind 0 (L.take k)) (pre ++ [v]) = orB (bitsV (bitsI kind 0 (L.take k)) pre) v by simp [bitsV]]
          exact blk_put hI.f 0 _ rfl
        · have := hP4.r
          simp only
          rintro rfl
          exact absurd hlt1 (by omega)
        · rintro rfl
          have := hI.m _ hr
          rw [hI.f] at this
          cases this
      case stop =>
        rintro D c pre W hD _ h _
        exact h.elim
      case done =>
        rintro D ys W hD rfl hI hK
        subst hsb
        go_wp2
        go_roundw
        case rel =>
          refine ⟨k + 1, _, _, _, _, _, _, _, _, _, _, _, _, _, _, _, _, _, _, _, _, _, _, _, _, _, _, _, _, _, _, _, _, _, _, _, _, _, _, _, _, _, _, _, _, rfl, by omega, hP4.m.cons hI.m (by have := hP4.below.size; omega) hD hK, hI.below, hI.r, ?_, hI.s⟩
          rw [show bitsI kind 0 (L.take (k + 1)) = bitsV (bitsI kind 0 (L.take k)) (valsI kind x.2.1 x.2.2.1 x.2.2.2) by rw [List.take_add_one, hx]; simp [bitsI]]
          exact hI.f
        case measure => simp [intOf]; omega
    · obtain rfl : k = L.length := by omega
      rw [List.take_length] at hF
      have hlt' : ¬ ((L.length : Int) < (L.length : Int)) := by omega
      have f0 : W.cell? ⟨w.heap.size + 1, 0, none⟩ = some (.int .u64 (bitsI kind 0 L)) := blk_cell hF 0
      have f1 : W.cell? ⟨w.heap.size + 1, 1, none⟩ = some (.bool star) := blk_cell hF 1
      have r0 : W.frozen? ⟨w.heap.size, 0, none⟩ = false := blk_frozen hR 0
      have r1 : W.frozen? ⟨w.heap.size, 1, none⟩ = false := blk_frozen hR 1
      have s0 : W.cell? ⟨w.heap.size, 0, none⟩ = some (.int .u64 0) := blk_cell hR 0
      have s1 : W.cell? ⟨w.heap.size, 1, none⟩ = some (.bool false) := blk_cell hR 1
      go_wp2
      refine leaves_parse w (bitsI kind 0 L) star _ rfl rfl ds _ (hM.kx fun r hr => ?_) ((hB.setCell (p := ⟨w.heap.size, 0, none⟩) (Nat.le_refl _) _).setCell (p := ⟨w.heap.size, 1, none⟩) (Nat.le_refl _) _) (blk_put (blk_put hR 0 _ rfl) 1 _ rfl)
      have hne : r ≠ w.heap.size := by rintro rfl; rw [hR] at hr; cases hr
      exact (Below.heap_setCell _ _ _ _ hne).trans ((Below.heap_setCell _ _ _ _ hne).trans hr)

end Go.Proofs.YtkdejfedigiohaaGreatDoor
