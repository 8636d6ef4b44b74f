/- spec.Parse at a text whose five words are in order. -/
import Derived.Test.YtkdejfedigiohaaGreatDoorParse
import Derived.Test.YtkdejfedigiohaaGreatDoorWords
import Derived.Test.YtkdejfedigiohaaGreatDoorSpec
namespace Go.Proofs.YtkdejfedigiohaaGreatDoor
open Go.RowKit Go.Proofs.YtkdejfedigiohaaGreatDoorW.PrintWords Go.Proofs.YtkdejfedigiohaaGreatDoorW.PrintLast Go.Proofs.YtkdejfedigiohaaGreatDoorW.PrintMore
set_option linter.unusedVariables false
set_option linter.unusedSimpArgs false


/-- A field's text in order. -/
structure PF (t : ByteArray) (kind : Int) (star : Bool) (L : List It) : Prop where
  size : t.size < 4294967281
  star : (t.toList == [42]) = star
  split : Lib.splitB ⟨#[44]⟩ 0 (Lib.countB t ⟨#[44]⟩) t = L.map (·.1)
  n : Lib.countB t ⟨#[44]⟩ + 1 = L.length
  len : L.length < 4294967296
  items : ∀ x ∈ L, ItemOk kind x.1 x.2.1 x.2.2.1 x.2.2.2
theorem PF.ok {t : ByteArray} {kind : Int} {star : Bool} {L : List It} (h : PF t kind star L) (w : World) (h0 : 0 ≤ kind) (h1 : kind ≤ 4) (hE : Env w) (h8 : 8 ≤ w.heap.size) :
    Calls Tryz.prog 33 #[.string t, .int .i64 kind] w fun e w' => e = .returned (.tuple #[.agg #[.int .u64 (bitsI kind 0 L), .bool star], .int .i64 0]) ∧ Below w.heap.size w w' :=
  parse_ok t kind w star L h0 h1 hE h8 h.size h.star h.split h.n h.len h.items

def sp0 : Sp := ⟨⟨0, false⟩, ⟨0, false⟩, ⟨0, false⟩, ⟨0, false⟩, ⟨0, false⟩⟩
/-- A spec's block. -/
def SpB (W : World) (b : Nat) (x : Sp) : Prop := W.heap[b]? = some (.cells #[.int .u64 x.m.b, .bool x.m.s, .int .u64 x.h.b, .bool x.h.s, .int .u64 x.d.b, .bool x.d.s, .int .u64 x.n.b, .bool x.n.s, .int .u64 x.w.b, .bool x.w.s] 26 (0, 0))
theorem SpB.spIn {W : World} {b : Nat} {x : Sp} (h : SpB W b x) : SpIn W b x := ⟨blk_cell h 0, blk_cell h 1, blk_cell h 2, blk_cell h 3, blk_cell h 4, blk_cell h 5, blk_cell h 6, blk_cell h 7, blk_cell h 8, blk_cell h 9⟩
def SpFz (W : World) (b : Nat) : Prop := W.frozen? ⟨b, 0, none⟩ = false ∧ W.frozen? ⟨b, 1, none⟩ = false ∧ W.frozen? ⟨b, 2, none⟩ = false ∧ W.frozen? ⟨b, 3, none⟩ = false ∧ W.frozen? ⟨b, 4, none⟩ = false ∧ W.frozen? ⟨b, 5, none⟩ = false ∧ W.frozen? ⟨b, 6, none⟩ = false ∧ W.frozen? ⟨b, 7, none⟩ = false ∧ W.frozen? ⟨b, 8, none⟩ = false ∧ W.frozen? ⟨b, 9, none⟩ = false
theorem SpB.fz {W : World} {b : Nat} {x : Sp} (h : SpB W b x) : SpFz W b := ⟨blk_frozen h 0, blk_frozen h 1, blk_frozen h 2, blk_frozen h 3, blk_frozen h 4, blk_frozen h 5, blk_frozen h 6, blk_frozen h 7, blk_frozen h 8, blk_frozen h 9⟩
theorem SpB.put0 {W : World} {b : Nat} {x : Sp} (h : SpB W b x) (u : Int) (s : Bool) : SpB ((W.setCell ⟨b, 0, none⟩ (.int .u64 u)).setCell ⟨b, 1, none⟩ (.bool s)) b { x with m := ⟨u, s⟩ } := blk_put (blk_put h 0 _ rfl) 1 _ rfl
theorem SpB.put1 {W : World} {b : Nat} {x : Sp} (h : SpB W b x) (u : Int) (s : Bool) : SpB ((W.setCell ⟨b, 2, none⟩ (.int .u64 u)).setCell ⟨b, 3, none⟩ (.bool s)) b { x with h := ⟨u, s⟩ } := blk_put (blk_put h 2 _ rfl) 3 _ rfl
theorem SpB.put2 {W : World} {b : Nat} {x : Sp} (h : SpB W b x) (u : Int) (s : Bool) : SpB ((W.setCell ⟨b, 4, none⟩ (.int .u64 u)).setCell ⟨b, 5, none⟩ (.bool s)) b { x with d := ⟨u, s⟩ } := blk_put (blk_put h 4 _ rfl) 5 _ rfl
theorem SpB.put3 {W : World} {b : Nat} {x : Sp} (h : SpB W b x) (u : Int) (s : Bool) : SpB ((W.setCell ⟨b, 6, none⟩ (.int .u64 u)).setCell ⟨b, 7, none⟩ (.bool s)) b { x with n := ⟨u, s⟩ } := blk_put (blk_put h 6 _ rfl) 7 _ rfl
theorem SpB.put4 {W : World} {b : Nat} {x : Sp} (h : SpB W b x) (u : Int) (s : Bool) : SpB ((W.setCell ⟨b, 8, none⟩ (.int .u64 u)).setCell ⟨b, 9, none⟩ (.bool s)) b { x with w := ⟨u, s⟩ } := blk_put (blk_put h 8 _ rfl) 9 _ rfl
theorem sfl0 (c : Addr) (b : Nat) (W : World) (hc : W.cell? c = some (.pointer (some ⟨b, 0, none⟩))) :
    Calls Tryz.prog 89 #[.pointer (some c)] W fun e w' => e = .returned (.pointer (some ⟨b, 0, none⟩)) ∧ W = w' := sf1_q c b 0 W hc
theorem sfl1 (c : Addr) (b : Nat) (W : World) (hc : W.cell? c = some (.pointer (some ⟨b, 0, none⟩))) :
    Calls Tryz.prog 90 #[.pointer (some c)] W fun e w' => e = .returned (.pointer (some ⟨b, 2, none⟩)) ∧ W = w' := sf2_q c b 0 W hc
theorem sfl2 (c : Addr) (b : Nat) (W : World) (hc : W.cell? c = some (.pointer (some ⟨b, 0, none⟩))) :
    Calls Tryz.prog 91 #[.pointer (some c)] W fun e w' => e = .returned (.pointer (some ⟨b, 4, none⟩)) ∧ W = w' := sf3_q c b 0 W hc
theorem sfl3 (c : Addr) (b : Nat) (W : World) (hc : W.cell? c = some (.pointer (some ⟨b, 0, none⟩))) :
    Calls Tryz.prog 92 #[.pointer (some c)] W fun e w' => e = .returned (.pointer (some ⟨b, 6, none⟩)) ∧ W = w' := sf4_q c b 0 W hc
theorem sfl4 (c : Addr) (b : Nat) (W : World) (hc : W.cell? c = some (.pointer (some ⟨b, 0, none⟩))) :
    Calls Tryz.prog 93 #[.pointer (some c)] W fun e w' => e = .returned (.pointer (some ⟨b, 8, none⟩)) ∧ W = w' := sf5_q c b 0 W hc

/-- While the five are parsed: the result's block, the spec's block xb, the words at A, the functions' block cb. -/
structure SpI (w : World) (A xb cb : Nat) (ws : List ByteArray) (x : Sp) (W : World) : Prop where
  below : Below w.heap.size w W
  r : SpB W w.heap.size sp0
  x : SpB W xb x
  c : W.cell? ⟨cb, 0, none⟩ = some (.pointer (some ⟨xb, 0, none⟩))
  ws : ∀ j, j < 5 → W.cell? ⟨A, j, none⟩ = (ws.map Value.string)[j]?
  env : Env W
  g8 : 8 ≤ W.heap.size
  lo : w.heap.size < xb
  x8 : 8 ≤ xb
  cx : cb ≠ xb
  ax : A ≠ xb
  al : A < W.heap.size
  cl : cb < W.heap.size
theorem SpI.on {w : World} {A xb cb : Nat} {ws : List ByteArray} {x : Sp} {W W' : World} (h : SpI w A xb cb ws x W) (hb : Below W.heap.size W W') : SpI w A xb cb ws x W' where
  below := h.below.trans (hb.mono h.below.size)
  r := blk_below h.r hb
  x := blk_below h.x hb
  c := (hb.cell (p := ⟨cb, 0, none⟩) h.cl).trans h.c
  ws := fun j hj => (hb.cell (p := ⟨A, j, none⟩) h.al).trans (h.ws j hj)
  env := h.env.below hb
  g8 := Nat.le_trans h.g8 hb.size
  lo := h.lo
  x8 := h.x8
  cx := h.cx
  ax := h.ax
  al := Nat.lt_of_lt_of_le h.al hb.size
  cl := Nat.lt_of_lt_of_le h.cl hb.size
theorem SpI.put {w : World} {A xb cb : Nat} {ws : List ByteArray} {x x' : Sp} {W : World} (h : SpI w A xb cb ws x W) (i j : Nat) (u v : Value) (hx : SpB ((W.setCell ⟨xb, i, none⟩ u).setCell ⟨xb, j, none⟩ v) xb x') :
    SpI w A xb cb ws x' ((W.setCell ⟨xb, i, none⟩ u).setCell ⟨xb, j, none⟩ v) := by
  have hK : KX xb W ((W.setCell ⟨xb, i, none⟩ u).setCell ⟨xb, j, none⟩ v) := (KX.set W i u).trans (KX.set _ j v)
  exact ⟨h.below.trans (hK.below (Nat.le_of_lt h.lo) h.below.size), hK.blk h.r (by have := h.lo; omega), hx, (World.cell?_of_block (w := W) (hK.block cb h.cl h.cx)).trans h.c,
    fun k hk => (World.cell?_of_block (w := W) (hK.block A h.al h.ax)).trans (h.ws k hk), h.env.kx hK h.x8, Nat.le_trans h.g8 hK.size, h.lo, h.x8, h.cx, h.ax, Nat.lt_of_lt_of_le h.al hK.size, Nat.lt_of_lt_of_le h.cl hK.size⟩

set_option maxRecDepth 100000 in
set_option maxHeartbeats 2000000 in
theorem specParse_ok (s : ByteArray) (w : World) (t0 t1 t2 t3 t4 : ByteArray) (s0 s1 s2 s3 s4 : Bool) (L0 L1 L2 L3 L4 : List It) (hE : Env w) (h8 : 8 ≤ w.heap.size) (hs : s.size ≤ 256)
    (hk : ∀ i (h : i < s.size), s[i].toNat < 128 ∧ knownI (s[i].toNat : Int) = true) (hw : wordsL s = [t0, t1, t2, t3, t4])
    (p0 : PF t0 0 s0 L0) (p1 : PF t1 1 s1 L1) (p2 : PF t2 2 s2 L2) (p3 : PF t3 3 s3 L3) (p4 : PF t4 4 s4 L4) :
    Calls Tryz.prog 34 #[.string s] w fun e w' => e = .returned (.tuple #[.agg #[.int .u64 (bitsI 0 0 L0), .bool s0, .int .u64 (bitsI 1 0 L1), .bool s1, .int .u64 (bitsI 2 0 L2), .bool s2, .int .u64 (bitsI 3 0 L3), .bool s3, .int .u64 (bitsI 4 0 L4), .bool s4], .int .i64 0, .int .i64 0])
      ∧ Below w.heap.size w w' := by
  have hwo := fun W => Lib.hid (words_ok s W hs hk (by rw [hw]; rfl))
  have hw := Lib.hid hw
  clear hk
  go_enter Tryz.func34, Tryz.ntmps34
  go_wp2_with fail
  refine (hwo _).out.mono ?_
  clear hwo
  rintro e w1 ⟨A, rfl, hcA, hlA, hb1⟩
  rw [hw.out] at hcA
  have hcB := Lib.hid hcA
  clear hcA
  have hr1 : SpB w1 w.heap.size sp0 := blk_below (w := w.alloc (.cells #[.int .u64 sp0.m.b, .bool sp0.m.s, .int .u64 sp0.h.b, .bool sp0.h.s, .int .u64 sp0.d.b, .bool sp0.d.s, .int .u64 sp0.n.b, .bool sp0.n.s, .int .u64 sp0.w.b, .bool sp0.w.s] 26)) (blk_new _ _) hb1
  have hB1 : Below w.heap.size w w1 := ((Below.refl _ _).alloc (Nat.le_refl _) _).trans (hb1.mono (by simp))
  have hlt1 := blk_lt hr1
  clear hb1
  go_wp2_with fail
  refine (fields_any _ _).mono ?_
  rintro e w2 ⟨rfl, hc, hsz, hb2⟩
  have hI : SpI w A w1.heap.size (w1.heap.size + 1) [t0, t1, t2, t3, t4] sp0 w2 := by
    have hb : Below w1.heap.size w1 (w1.alloc (.cells #[.int .u64 sp0.m.b, .bool sp0.m.s, .int .u64 sp0.h.b, .bool sp0.h.s, .int .u64 sp0.d.b, .bool sp0.d.s, .int .u64 sp0.n.b, .bool sp0.n.s, .int .u64 sp0.w.b, .bool sp0.w.s] 26)) := (Below.refl _ _).alloc (Nat.le_refl _) _
    have hb3 : Below w1.heap.size w1 w2 := hb.trans (hb2.mono (by simp))
    refine ⟨hB1.trans (hb3.mono hB1.size), blk_below hr1 hb3, blk_below (w := w1.alloc (.cells #[.int .u64 sp0.m.b, .bool sp0.m.s, .int .u64 sp0.h.b, .bool sp0.h.s, .int .u64 sp0.d.b, .bool sp0.d.s, .int .u64 sp0.n.b, .bool sp0.n.s, .int .u64 sp0.w.b, .bool sp0.w.s] 26)) (blk_new _ _) hb2, ?_, fun j hj => (hb3.cell (p := ⟨A, j, none⟩) hlA).trans (hcB.out j hj),
      (hE.below hB1).below hb3, by have := hb3.size; omega, hlt1, by omega, by omega, by omega, by have := hb3.size; omega, by simp at hsz; omega⟩
    simpa only [World.size_alloc] using hc
  simp only [World.size_alloc]
  clear hb2 hsz hc hcB hlA hr1 hB1 hlt1
  generalize w1.heap.size + 1 = cb at *
  generalize w1.heap.size = xb at *
  clear w1
  go_wp2_with fail
  refine wp_loop_rounds 6 ?_
  -- round 0
  rw [rounds_succ]
  have ix := sfi0
  have wk : w2.cell? ⟨A, 0, none⟩ = some (.string t0) := hI.ws 0 (by decide)
  go_wp2_with fail
  refine (p0.ok w2 (by decide) (by decide) hI.env hI.g8).mono ?_
  rintro e w3 ⟨rfl, hb3⟩
  clear wk
  go_wp2
  generalize hW : w3.alloc (.cells #[.int .u64 (bitsI 0 0 L0), .bool s0] 24) = w4
  have hI4 : SpI w A xb cb [t0, t1, t2, t3, t4] _ w4 := hW ▸ (hI.on hb3).on ((Below.refl _ _).alloc (Nat.le_refl _) _)
  have q0 : w4.cell? ⟨w3.heap.size, 0, none⟩ = some (.int .u64 (bitsI 0 0 L0)) := by subst hW; go_simp
  have q1 : w4.cell? ⟨w3.heap.size, 1, none⟩ = some (.bool s0) := by subst hW; go_simp
  have hcb : w4.drew.cell? ⟨cb, 0, none⟩ = some (.pointer (some ⟨xb, 0, none⟩)) := hI4.c
  have x0 := blk_cell hI4.x 0
  have x1 := blk_cell hI4.x 1
  have z0 := blk_frozen hI4.x 0
  have z1 := blk_frozen hI4.x 1
  simp only [List.getElem?_toArray, List.getElem?_cons_succ, List.getElem?_cons_zero] at x0 x1
  clear hI hb3 hW ix
  refine start_ (n := 5) (S := fun w' => w'.cell? ⟨w3.heap.size, 0, none⟩ = some (.int .u64 (bitsI 0 0 L0)) ∧ w'.cell? ⟨w3.heap.size, 1, none⟩ = some (.bool s0)) (ds := [4]) #[false, false, false, false, false] (by kernel_rfl) rfl rfl ⟨q0, q1⟩ (fun hHeld => ?_)
  refine pure_ (i := 0) (N := some 41) (v := ?_) (a' := ?_) #[true, false, false, false, false] rfl rfl (by kernel_rfl) (fun _ _ _ h => h) (Or.inl ⟨by rfl, ?_⟩) ?_ ?_
  rotate_left
  · intro w'
    go_simp
    with_reducible rfl
  rotate_left
  · simp only [Act.put, List.setIfInBounds_toArray, List.set_cons_zero, List.set_cons_succ, i64_w, i32_w]
    rfl
  refine take_ (i := 2) (N := some 43) (v := ?_) (a' := ?_) #[true, false, true, false, false] rfl rfl (by kernel_rfl) (fun _ _ _ h => h) (Or.inl ⟨by rfl, ?_⟩) hHeld ?_ ?_
  rotate_left
  · rintro w' ⟨s0, s1⟩
    go_simp
    with_reducible rfl
  rotate_left
  · simp only [Act.put, List.setIfInBounds_toArray, List.set_cons_zero, List.set_cons_succ, i64_w, i32_w]
    rfl
  refine one_ (i := 1) (N := some 42) #[true, true, true, false, false] rfl rfl (by kernel_rfl) (by decide) (fun K hK => ?_)
  refine call_ (89) #[.pointer (some ⟨cb, 0, none⟩)] (by rfl) rfl ?_ ?_
  · have he := eg_sf1
    go_simp
  with_reducible refine (sfl0 ⟨cb, 0, none⟩ xb _ hcb).mono ?_
  rintro e w5 ⟨rfl, rfl⟩
  refine ⟨_, rfl, ?_⟩
  refine hK.out _ _ ⟨q0, q1⟩ (fun hHeld => ?_)
  clear hK K
  refine norm_ (a' := ?_) ?_ ?_
  rotate_left
  · show Act.put _ (some 42) _ = _
    simp only [Act.put, List.setIfInBounds_toArray, List.set_cons_zero, List.set_cons_succ, i64_w, i32_w]
    rfl
  refine pure_ (i := 3) (N := some 44) (v := ?_) (a' := ?_) #[true, true, true, true, false] rfl rfl (by kernel_rfl) (fun _ _ _ h => h) (Or.inl ⟨by rfl, ?_⟩) ?_ ?_
  rotate_left
  · intro w'
    go_simp
    with_reducible rfl
  rotate_left
  · simp only [Act.put, List.setIfInBounds_toArray, List.set_cons_zero, List.set_cons_succ, i64_w, i32_w]
    rfl
  refine last_ (i := 4) (N := none) #[true, true, true, true, true] rfl rfl (by kernel_rfl) (by decide) (fun K hK => ?_)
  refine skip_ (w1 := ?_) (by rfl) rfl ?_ ?_
  rotate_left
  · go_simp
    rfl
  refine hK.out _ _ ?_
  clear hK K
  refine done_ (by kernel_rfl) ?_

  have hI5 := (hI4.put 0 1 _ _ (hI4.x.put0 (bitsI 0 0 L0) s0)).on (Below.drew (Below.refl _ _))
  clear hI4 q0 q1 hcb x0 x1 z0 z1 hHeld
  go_wp2_with fail
  generalize ((w4.setCell ⟨xb, 0, none⟩ _).setCell ⟨xb, 1, none⟩ _).drew = w2 at hI5 ⊢
  have hI := hI5
  clear hI5
  -- round 1
  rw [rounds_succ]
  have ix := sfi1
  have wk : w2.cell? ⟨A, 1, none⟩ = some (.string t1) := hI.ws 1 (by decide)
  go_wp2_with fail
  refine (p1.ok w2 (by decide) (by decide) hI.env hI.g8).mono ?_
  rintro e w3 ⟨rfl, hb3⟩
  clear wk
  go_wp2
  generalize hW : w3.alloc (.cells #[.int .u64 (bitsI 1 0 L1), .bool s1] 24) = w4
  have hI4 : SpI w A xb cb [t0, t1, t2, t3, t4] _ w4 := hW ▸ (hI.on hb3).on ((Below.refl _ _).alloc (Nat.le_refl _) _)
  have q0 : w4.cell? ⟨w3.heap.size, 0, none⟩ = some (.int .u64 (bitsI 1 0 L1)) := by subst hW; go_simp
  have q1 : w4.cell? ⟨w3.heap.size, 1, none⟩ = some (.bool s1) := by subst hW; go_simp
  have hcb : w4.drew.cell? ⟨cb, 0, none⟩ = some (.pointer (some ⟨xb, 0, none⟩)) := hI4.c
  have x0 := blk_cell hI4.x 2
  have x1 := blk_cell hI4.x 3
  have z0 := blk_frozen hI4.x 2
  have z1 := blk_frozen hI4.x 3
  simp only [List.getElem?_toArray, List.getElem?_cons_succ, List.getElem?_cons_zero] at x0 x1
  clear hI hb3 hW ix
  refine start_ (n := 5) (S := fun w' => w'.cell? ⟨w3.heap.size, 0, none⟩ = some (.int .u64 (bitsI 1 0 L1)) ∧ w'.cell? ⟨w3.heap.size, 1, none⟩ = some (.bool s1)) (ds := [4]) #[false, false, false, false, false] (by kernel_rfl) rfl rfl ⟨q0, q1⟩ (fun hHeld => ?_)
  refine pure_ (i := 0) (N := some 41) (v := ?_) (a' := ?_) #[true, false, false, false, false] rfl rfl (by kernel_rfl) (fun _ _ _ h => h) (Or.inl ⟨by rfl, ?_⟩) ?_ ?_
  rotate_left
  · intro w'
    go_simp
    with_reducible rfl
  rotate_left
  · simp only [Act.put, List.setIfInBounds_toArray, List.set_cons_zero, List.set_cons_succ, i64_w, i32_w]
    rfl
  refine take_ (i := 2) (N := some 43) (v := ?_) (a' := ?_) #[true, false, true, false, false] rfl rfl (by kernel_rfl) (fun _ _ _ h => h) (Or.inl ⟨by rfl, ?_⟩) hHeld ?_ ?_
  rotate_left
  · rintro w' ⟨s0, s1⟩
    go_simp
    with_reducible rfl
  rotate_left
  · simp only [Act.put, List.setIfInBounds_toArray, List.set_cons_zero, List.set_cons_succ, i64_w, i32_w]
    rfl
  refine one_ (i := 1) (N := some 42) #[true, true, true, false, false] rfl rfl (by kernel_rfl) (by decide) (fun K hK => ?_)
  refine call_ (90) #[.pointer (some ⟨cb, 0, none⟩)] (by rfl) rfl ?_ ?_
  · have he := eg_sf2
    go_simp
  with_reducible refine (sfl1 ⟨cb, 0, none⟩ xb _ hcb).mono ?_
  rintro e w5 ⟨rfl, rfl⟩
  refine ⟨_, rfl, ?_⟩
  refine hK.out _ _ ⟨q0, q1⟩ (fun hHeld => ?_)
  clear hK K
  refine norm_ (a' := ?_) ?_ ?_
  rotate_left
  · show Act.put _ (some 42) _ = _
    simp only [Act.put, List.setIfInBounds_toArray, List.set_cons_zero, List.set_cons_succ, i64_w, i32_w]
    rfl
  refine pure_ (i := 3) (N := some 44) (v := ?_) (a' := ?_) #[true, true, true, true, false] rfl rfl (by kernel_rfl) (fun _ _ _ h => h) (Or.inl ⟨by rfl, ?_⟩) ?_ ?_
  rotate_left
  · intro w'
    go_simp
    with_reducible rfl
  rotate_left
  · simp only [Act.put, List.setIfInBounds_toArray, List.set_cons_zero, List.set_cons_succ, i64_w, i32_w]
    rfl
  refine last_ (i := 4) (N := none) #[true, true, true, true, true] rfl rfl (by kernel_rfl) (by decide) (fun K hK => ?_)
  refine skip_ (w1 := ?_) (by rfl) rfl ?_ ?_
  rotate_left
  · go_simp
    rfl
  refine hK.out _ _ ?_
  clear hK K
  refine done_ (by kernel_rfl) ?_

  have hI5 := (hI4.put 2 3 _ _ (hI4.x.put1 (bitsI 1 0 L1) s1)).on (Below.drew (Below.refl _ _))
  clear hI4 q0 q1 hcb x0 x1 z0 z1 hHeld
  go_wp2_with fail
  generalize ((w4.setCell ⟨xb, 2, none⟩ _).setCell ⟨xb, 3, none⟩ _).drew = w2 at hI5 ⊢
  have hI := hI5
  clear hI5
  -- round 2
  rw [rounds_succ]
  have ix := sfi2
  have wk : w2.cell? ⟨A, 2, none⟩ = some (.string t2) := hI.ws 2 (by decide)
  go_wp2_with fail
  refine (p2.ok w2 (by decide) (by decide) hI.env hI.g8).mono ?_
  rintro e w3 ⟨rfl, hb3⟩
  clear wk
  go_wp2
  generalize hW : w3.alloc (.cells #[.int .u64 (bitsI 2 0 L2), .bool s2] 24) = w4
  have hI4 : SpI w A xb cb [t0, t1, t2, t3, t4] _ w4 := hW ▸ (hI.on hb3).on ((Below.refl _ _).alloc (Nat.le_refl _) _)
  have q0 : w4.cell? ⟨w3.heap.size, 0, none⟩ = some (.int .u64 (bitsI 2 0 L2)) := by subst hW; go_simp
  have q1 : w4.cell? ⟨w3.heap.size, 1, none⟩ = some (.bool s2) := by subst hW; go_simp
  have hcb : w4.drew.cell? ⟨cb, 0, none⟩ = some (.pointer (some ⟨xb, 0, none⟩)) := hI4.c
  have x0 := blk_cell hI4.x 4
  have x1 := blk_cell hI4.x 5
  have z0 := blk_frozen hI4.x 4
  have z1 := blk_frozen hI4.x 5
  simp only [List.getElem?_toArray, List.getElem?_cons_succ, List.getElem?_cons_zero] at x0 x1
  clear hI hb3 hW ix
  refine start_ (n := 5) (S := fun w' => w'.cell? ⟨w3.heap.size, 0, none⟩ = some (.int .u64 (bitsI 2 0 L2)) ∧ w'.cell? ⟨w3.heap.size, 1, none⟩ = some (.bool s2)) (ds := [4]) #[false, false, false, false, false] (by kernel_rfl) rfl rfl ⟨q0, q1⟩ (fun hHeld => ?_)
  refine pure_ (i := 0) (N := some 41) (v := ?_) (a' := ?_) #[true, false, false, false, false] rfl rfl (by kernel_rfl) (fun _ _ _ h => h) (Or.inl ⟨by rfl, ?_⟩) ?_ ?_
  rotate_left
  · intro w'
    go_simp
    with_reducible rfl
  rotate_left
  · simp only [Act.put, List.setIfInBounds_toArray, List.set_cons_zero, List.set_cons_succ, i64_w, i32_w]
    rfl
  refine take_ (i := 2) (N := some 43) (v := ?_) (a' := ?_) #[true, false, true, false, false] rfl rfl (by kernel_rfl) (fun _ _ _ h => h) (Or.inl ⟨by rfl, ?_⟩) hHeld ?_ ?_
  rotate_left
  · rintro w' ⟨s0, s1⟩
    go_simp
    with_reducible rfl
  rotate_left
  · simp only [Act.put, List.setIfInBounds_toArray, List.set_cons_zero, List.set_cons_succ, i64_w, i32_w]
    rfl
  refine one_ (i := 1) (N := some 42) #[true, true, true, false, false] rfl rfl (by kernel_rfl) (by decide) (fun K hK => ?_)
  refine call_ (91) #[.pointer (some ⟨cb, 0, none⟩)] (by rfl) rfl ?_ ?_
  · have he := eg_sf3
    go_simp
  with_reducible refine (sfl2 ⟨cb, 0, none⟩ xb _ hcb).mono ?_
  rintro e w5 ⟨rfl, rfl⟩
  refine ⟨_, rfl, ?_⟩
  refine hK.out _ _ ⟨q0, q1⟩ (fun hHeld => ?_)
  clear hK K
  refine norm_ (a' := ?_) ?_ ?_
  rotate_left
  · show Act.put _ (some 42) _ = _
    simp only [Act.put, List.setIfInBounds_toArray, List.set_cons_zero, List.set_cons_succ, i64_w, i32_w]
    rfl
  refine pure_ (i := 3) (N := some 44) (v := ?_) (a' := ?_) #[true, true, true, true, false] rfl rfl (by kernel_rfl) (fun _ _ _ h => h) (Or.inl ⟨by rfl, ?_⟩) ?_ ?_
  rotate_left
  · intro w'
    go_simp
    with_reducible rfl
  rotate_left
  · simp only [Act.put, List.setIfInBounds_toArray, List.set_cons_zero, List.set_cons_succ, i64_w, i32_w]
    rfl
  refine last_ (i := 4) (N := none) #[true, true, true, true, true] rfl rfl (by kernel_rfl) (by decide) (fun K hK => ?_)
  refine skip_ (w1 := ?_) (by rfl) rfl ?_ ?_
  rotate_left
  · go_simp
    rfl
  refine hK.out _ _ ?_
  clear hK K
  refine done_ (by kernel_rfl) ?_

  have hI5 := (hI4.put 4 5 _ _ (hI4.x.put2 (bitsI 2 0 L2) s2)).on (Below.drew (Below.refl _ _))
  clear hI4 q0 q1 hcb x0 x1 z0 z1 hHeld
  go_wp2_with fail
  generalize ((w4.setCell ⟨xb, 4, none⟩ _).setCell ⟨xb, 5, none⟩ _).drew = w2 at hI5 ⊢
  have hI := hI5
  clear hI5
  -- round 3
  rw [rounds_succ]
  have ix := sfi3
  have wk : w2.cell? ⟨A, 3, none⟩ = some (.string t3) := hI.ws 3 (by decide)
  go_wp2_with fail
  refine (p3.ok w2 (by decide) (by decide) hI.env hI.g8).mono ?_
  rintro e w3 ⟨rfl, hb3⟩
  clear wk
  go_wp2
  generalize hW : w3.alloc (.cells #[.int .u64 (bitsI 3 0 L3), .bool s3] 24) = w4
  have hI4 : SpI w A xb cb [t0, t1, t2, t3, t4] _ w4 := hW ▸ (hI.on hb3).on ((Below.refl _ _).alloc (Nat.le_refl _) _)
  have q0 : w4.cell? ⟨w3.heap.size, 0, none⟩ = some (.int .u64 (bitsI 3 0 L3)) := by subst hW; go_simp
  have q1 : w4.cell? ⟨w3.heap.size, 1, none⟩ = some (.bool s3) := by subst hW; go_simp
  have hcb : w4.drew.cell? ⟨cb, 0, none⟩ = some (.pointer (some ⟨xb, 0, none⟩)) := hI4.c
  have x0 := blk_cell hI4.x 6
  have x1 := blk_cell hI4.x 7
  have z0 := blk_frozen hI4.x 6
  have z1 := blk_frozen hI4.x 7
  simp only [List.getElem?_toArray, List.getElem?_cons_succ, List.getElem?_cons_zero] at x0 x1
  clear hI hb3 hW ix
  refine start_ (n := 5) (S := fun w' => w'.cell? ⟨w3.heap.size, 0, none⟩ = some (.int .u64 (bitsI 3 0 L3)) ∧ w'.cell? ⟨w3.heap.size, 1, none⟩ = some (.bool s3)) (ds := [4]) #[false, false, false, false, false] (by kernel_rfl) rfl rfl ⟨q0, q1⟩ (fun hHeld => ?_)
  refine pure_ (i := 0) (N := some 41) (v := ?_) (a' := ?_) #[true, false, false, false, false] rfl rfl (by kernel_rfl) (fun _ _ _ h => h) (Or.inl ⟨by rfl, ?_⟩) ?_ ?_
  rotate_left
  · intro w'
    go_simp
    with_reducible rfl
  rotate_left
  · simp only [Act.put, List.setIfInBounds_toArray, List.set_cons_zero, List.set_cons_succ, i64_w, i32_w]
    rfl
  refine take_ (i := 2) (N := some 43) (v := ?_) (a' := ?_) #[true, false, true, false, false] rfl rfl (by kernel_rfl) (fun _ _ _ h => h) (Or.inl ⟨by rfl, ?_⟩) hHeld ?_ ?_
  rotate_left
  · rintro w' ⟨s0, s1⟩
    go_simp
    with_reducible rfl
  rotate_left
  · simp only [Act.put, List.setIfInBounds_toArray, List.set_cons_zero, List.set_cons_succ, i64_w, i32_w]
    rfl
  refine one_ (i := 1) (N := some 42) #[true, true, true, false, false] rfl rfl (by kernel_rfl) (by decide) (fun K hK => ?_)
  refine call_ (92) #[.pointer (some ⟨cb, 0, none⟩)] (by rfl) rfl ?_ ?_
  · have he := eg_sf4
    go_simp
  with_reducible refine (sfl3 ⟨cb, 0, none⟩ xb _ hcb).mono ?_
  rintro e w5 ⟨rfl, rfl⟩
  refine ⟨_, rfl, ?_⟩
  refine hK.out _ _ ⟨q0, q1⟩ (fun hHeld => ?_)
  clear hK K
  refine norm_ (a' := ?_) ?_ ?_
  rotate_left
  · show Act.put _ (some 42) _ = _
    simp only [Act.put, List.setIfInBounds_toArray, List.set_cons_zero, List.set_cons_succ, i64_w, i32_w]
    rfl
  refine pure_ (i := 3) (N := some 44) (v := ?_) (a' := ?_) #[true, true, true, true, false] rfl rfl (by kernel_rfl) (fun _ _ _ h => h) (Or.inl ⟨by rfl, ?_⟩) ?_ ?_
  rotate_left
  · intro w'
    go_simp
    with_reducible rfl
  rotate_left
  · simp only [Act.put, List.setIfInBounds_toArray, List.set_cons_zero, List.set_cons_succ, i64_w, i32_w]
    rfl
  refine last_ (i := 4) (N := none) #[true, true, true, true, true] rfl rfl (by kernel_rfl) (by decide) (fun K hK => ?_)
  refine skip_ (w1 := ?_) (by rfl) rfl ?_ ?_
  rotate_left
  · go_simp
    rfl
  refine hK.out _ _ ?_
  clear hK K
  refine done_ (by kernel_rfl) ?_

  have hI5 := (hI4.put 6 7 _ _ (hI4.x.put3 (bitsI 3 0 L3) s3)).on (Below.drew (Below.refl _ _))
  clear hI4 q0 q1 hcb x0 x1 z0 z1 hHeld
  go_wp2_with fail
  generalize ((w4.setCell ⟨xb, 6, none⟩ _).setCell ⟨xb, 7, none⟩ _).drew = w2 at hI5 ⊢
  have hI := hI5
  clear hI5
  -- round 4
  rw [rounds_succ]
  have ix := sfi4
  have wk : w2.cell? ⟨A, 4, none⟩ = some (.string t4) := hI.ws 4 (by decide)
  go_wp2_with fail
  refine (p4.ok w2 (by decide) (by decide) hI.env hI.g8).mono ?_
  rintro e w3 ⟨rfl, hb3⟩
  clear wk
  go_wp2
  generalize hW : w3.alloc (.cells #[.int .u64 (bitsI 4 0 L4), .bool s4] 24) = w4
  have hI4 : SpI w A xb cb [t0, t1, t2, t3, t4] _ w4 := hW ▸ (hI.on hb3).on ((Below.refl _ _).alloc (Nat.le_refl _) _)
  have q0 : w4.cell? ⟨w3.heap.size, 0, none⟩ = some (.int .u64 (bitsI 4 0 L4)) := by subst hW; go_simp
  have q1 : w4.cell? ⟨w3.heap.size, 1, none⟩ = some (.bool s4) := by subst hW; go_simp
  have hcb : w4.drew.cell? ⟨cb, 0, none⟩ = some (.pointer (some ⟨xb, 0, none⟩)) := hI4.c
  have x0 := blk_cell hI4.x 8
  have x1 := blk_cell hI4.x 9
  have z0 := blk_frozen hI4.x 8
  have z1 := blk_frozen hI4.x 9
  simp only [List.getElem?_toArray, List.getElem?_cons_succ, List.getElem?_cons_zero] at x0 x1
  clear hI hb3 hW ix
  refine start_ (n := 5) (S := fun w' => w'.cell? ⟨w3.heap.size, 0, none⟩ = some (.int .u64 (bitsI 4 0 L4)) ∧ w'.cell? ⟨w3.heap.size, 1, none⟩ = some (.bool s4)) (ds := [4]) #[false, false, false, false, false] (by kernel_rfl) rfl rfl ⟨q0, q1⟩ (fun hHeld => ?_)
  refine pure_ (i := 0) (N := some 41) (v := ?_) (a' := ?_) #[true, false, false, false, false] rfl rfl (by kernel_rfl) (fun _ _ _ h => h) (Or.inl ⟨by rfl, ?_⟩) ?_ ?_
  rotate_left
  · intro w'
    go_simp
    with_reducible rfl
  rotate_left
  · simp only [Act.put, List.setIfInBounds_toArray, List.set_cons_zero, List.set_cons_succ, i64_w, i32_w]
    rfl
  refine take_ (i := 2) (N := some 43) (v := ?_) (a' := ?_) #[true, false, true, false, false] rfl rfl (by kernel_rfl) (fun _ _ _ h => h) (Or.inl ⟨by rfl, ?_⟩) hHeld ?_ ?_
  rotate_left
  · rintro w' ⟨s0, s1⟩
    go_simp
    with_reducible rfl
  rotate_left
  · simp only [Act.put, List.setIfInBounds_toArray, List.set_cons_zero, List.set_cons_succ, i64_w, i32_w]
    rfl
  refine one_ (i := 1) (N := some 42) #[true, true, true, false, false] rfl rfl (by kernel_rfl) (by decide) (fun K hK => ?_)
  refine call_ (93) #[.pointer (some ⟨cb, 0, none⟩)] (by rfl) rfl ?_ ?_
  · have he := eg_sf5
    go_simp
  with_reducible refine (sfl4 ⟨cb, 0, none⟩ xb _ hcb).mono ?_
  rintro e w5 ⟨rfl, rfl⟩
  refine ⟨_, rfl, ?_⟩
  refine hK.out _ _ ⟨q0, q1⟩ (fun hHeld => ?_)
  clear hK K
  refine norm_ (a' := ?_) ?_ ?_
  rotate_left
  · show Act.put _ (some 42) _ = _
    simp only [Act.put, List.setIfInBounds_toArray, List.set_cons_zero, List.set_cons_succ, i64_w, i32_w]
    rfl
  refine pure_ (i := 3) (N := some 44) (v := ?_) (a' := ?_) #[true, true, true, true, false] rfl rfl (by kernel_rfl) (fun _ _ _ h => h) (Or.inl ⟨by rfl, ?_⟩) ?_ ?_
  rotate_left
  · intro w'
    go_simp
    with_reducible rfl
  rotate_left
  · simp only [Act.put, List.setIfInBounds_toArray, List.set_cons_zero, List.set_cons_succ, i64_w, i32_w]
    rfl
  refine last_ (i := 4) (N := none) #[true, true, true, true, true] rfl rfl (by kernel_rfl) (by decide) (fun K hK => ?_)
  refine skip_ (w1 := ?_) (by rfl) rfl ?_ ?_
  rotate_left
  · go_simp
    rfl
  refine hK.out _ _ ?_
  clear hK K
  refine done_ (by kernel_rfl) ?_

  have hI5 := (hI4.put 8 9 _ _ (hI4.x.put4 (bitsI 4 0 L4) s4)).on (Below.drew (Below.refl _ _))
  clear hI4 q0 q1 hcb x0 x1 z0 z1 hHeld
  go_wp2_with fail
  generalize ((w4.setCell ⟨xb, 8, none⟩ _).setCell ⟨xb, 9, none⟩ _).drew = w2 at hI5 ⊢
  have hI := hI5
  clear hI5
  rw [rounds_succ]
  have hr := hI.r
  obtain ⟨c0, c1, c2, c3, c4, c5, c6, c7, c8, c9⟩ := hI.x.spIn
  obtain ⟨d0, d1, d2, d3, d4, d5, d6, d7, d8, d9⟩ := hr.spIn
  obtain ⟨z0, z1, z2, z3, z4, z5, z6, z7, z8, z9⟩ := hr.fz
  have hB := hI.below
  clear hI
  go_wp2
  have hB9 : Below w.heap.size w ((((((((((w2.setCell ⟨w.heap.size, 0, none⟩ (.int .u64 (bitsI 0 0 L0))).setCell ⟨w.heap.size, 1, none⟩ (.bool s0)).setCell ⟨w.heap.size, 2, none⟩ (.int .u64 (bitsI 1 0 L1))).setCell ⟨w.heap.size, 3, none⟩ (.bool s1)).setCell ⟨w.heap.size, 4, none⟩ (.int .u64 (bitsI 2 0 L2))).setCell ⟨w.heap.size, 5, none⟩ (.bool s2)).setCell ⟨w.heap.size, 6, none⟩ (.int .u64 (bitsI 3 0 L3))).setCell ⟨w.heap.size, 7, none⟩ (.bool s3)).setCell ⟨w.heap.size, 8, none⟩ (.int .u64 (bitsI 4 0 L4))).setCell ⟨w.heap.size, 9, none⟩ (.bool s4)) := ((((((((((hB.setCell (p := ⟨w.heap.size, 0, none⟩) (Nat.le_refl _) _).setCell (p := ⟨w.heap.size, 1, none⟩) (Nat.le_refl _) _).setCell (p := ⟨w.heap.size, 2, none⟩) (Nat.le_refl _) _).setCell (p := ⟨w.heap.size, 3, none⟩) (Nat.le_refl _) _).setCell (p := ⟨w.heap.size, 4, none⟩) (Nat.le_refl _) _).setCell (p := ⟨w.heap.size, 5, none⟩) (Nat.le_refl _) _).setCell (p := ⟨w.heap.size, 6, none⟩) (Nat.le_refl _) _).setCell (p := ⟨w.heap.size, 7, none⟩) (Nat.le_refl _) _).setCell (p := ⟨w.heap.size, 8, none⟩) (Nat.le_refl _) _).setCell (p := ⟨w.heap.size, 9, none⟩) (Nat.le_refl _) _)
  have hr9 : SpB ((((((((((w2.setCell ⟨w.heap.size, 0, none⟩ (.int .u64 (bitsI 0 0 L0))).setCell ⟨w.heap.size, 1, none⟩ (.bool s0)).setCell ⟨w.heap.size, 2, none⟩ (.int .u64 (bitsI 1 0 L1))).setCell ⟨w.heap.size, 3, none⟩ (.bool s1)).setCell ⟨w.heap.size, 4, none⟩ (.int .u64 (bitsI 2 0 L2))).setCell ⟨w.heap.size, 5, none⟩ (.bool s2)).setCell ⟨w.heap.size, 6, none⟩ (.int .u64 (bitsI 3 0 L3))).setCell ⟨w.heap.size, 7, none⟩ (.bool s3)).setCell ⟨w.heap.size, 8, none⟩ (.int .u64 (bitsI 4 0 L4))).setCell ⟨w.heap.size, 9, none⟩ (.bool s4)) w.heap.size ⟨⟨bitsI 0 0 L0, s0⟩, ⟨bitsI 1 0 L1, s1⟩, ⟨bitsI 2 0 L2, s2⟩, ⟨bitsI 3 0 L3, s3⟩, ⟨bitsI 4 0 L4, s4⟩⟩ := (((((hr.put0 (bitsI 0 0 L0) s0).put1 (bitsI 1 0 L1) s1).put2 (bitsI 2 0 L2) s2).put3 (bitsI 3 0 L3) s3).put4 (bitsI 4 0 L4) s4)
  clear c0 c1 c2 c3 c4 c5 c6 c7 c8 c9 d0 d1 d2 d3 d4 d5 d6 d7 d8 d9 z0 z1 z2 z3 z4 z5 z6 z7 z8 z9 hr hB
  generalize ((((((((((w2.setCell ⟨w.heap.size, 0, none⟩ (.int .u64 (bitsI 0 0 L0))).setCell ⟨w.heap.size, 1, none⟩ (.bool s0)).setCell ⟨w.heap.size, 2, none⟩ (.int .u64 (bitsI 1 0 L1))).setCell ⟨w.heap.size, 3, none⟩ (.bool s1)).setCell ⟨w.heap.size, 4, none⟩ (.int .u64 (bitsI 2 0 L2))).setCell ⟨w.heap.size, 5, none⟩ (.bool s2)).setCell ⟨w.heap.size, 6, none⟩ (.int .u64 (bitsI 3 0 L3))).setCell ⟨w.heap.size, 7, none⟩ (.bool s3)).setCell ⟨w.heap.size, 8, none⟩ (.int .u64 (bitsI 4 0 L4))).setCell ⟨w.heap.size, 9, none⟩ (.bool s4)) = w9 at *
  obtain ⟨c0, c1, c2, c3, c4, c5, c6, c7, c8, c9⟩ := hr9.spIn
  refine bodyPost_ret (v := .tuple #[.agg #[.int .u64 (bitsI 0 0 L0), .bool s0, .int .u64 (bitsI 1 0 L1), .bool s1, .int .u64 (bitsI 2 0 L2), .bool s2, .int .u64 (bitsI 3 0 L3), .bool s3, .int .u64 (bitsI 4 0 L4), .bool s4], .int .i64 0, .int .i64 0]) (by simp [results, Tryz.results34, go_sem, c0, c1, c2, c3, c4, c5, c6, c7, c8, c9]) rfl ⟨rfl, hB9⟩

end Go.Proofs.YtkdejfedigiohaaGreatDoor
