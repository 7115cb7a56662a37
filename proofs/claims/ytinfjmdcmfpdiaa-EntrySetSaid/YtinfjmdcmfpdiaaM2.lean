/- Walks and plain laws on which the claim stands, several texts joined. -/
import Derived.Test.YtinfjmdcmfpdiaaM1
import Derived.Test.YtinfjmdcmfpdiaaM0
import Derived.Lib.BufferWrite
import Derived.Laws.CopyOwn
import Derived.Laws.Tables
import Derived.Deep.Draws
import Derived.RowKit3
import Derived.Test.YtinfjmdcmfpdiaaProg
import Derived.Below
import Derived.Deep.AppendLies
import Derived.Maps.AppendAt
import Derived.OwnWalk
import Derived.Laws.BytesArg
import Derived.Laws.MakeOwn
import Derived.Laws.OwnMore
import Derived.Deep.OwnRows
import Derived.Tactics
import Derived.Lib.ConvBytes
import Derived.Laws.Slices
import Derived.WalkKit
import Derived.KernelRfl
import Derived.Deep.LoopGhost
import Derived.Deep.QuietTactic
import Derived.BigQuiet
import Derived.WideLaws
import Derived.Deep.DeepCutAuto
import Derived.Deep.CutBlock
import Derived.Deep.RegionHeld3
import Derived.Laws.Rows
import Derived.Lib.AppendStr
import Derived.ArgAppend
import Derived.Laws.IdiomCopy
import Derived.OrdersHeld
import Derived.Laws.BitsLemmas
import Derived.RowKit
import Derived.Test.YtinfjmdcmfpdiaaWWords
import Derived.Test.YtinfjmdcmfpdiaaWLast
import Derived.Test.YtinfjmdcmfpdiaaWTab
import Derived.Test.YtinfjmdcmfpdiaaWEqStruct
import Derived.Test.YtinfjmdcmfpdiaaWGuard

/- Contracts of functions that the statements reach: each call's answer as a plain Lean function. Printed by a program of this session (over the kit's print) out of the translation; Lean checks it. -/
namespace Go.Proofs.Ytinfjmdcmfpdiaa.B
open Go.Proofs.Ytinfjmdcmfpdiaa.P Go.RowKit Go.Proofs.YtinfjmdcmfpdiaaW.PrintWords Go.Proofs.YtinfjmdcmfpdiaaW.PrintLast Go.Proofs.YtinfjmdcmfpdiaaW.PrintMore
set_option linter.unusedVariables false
set_option linter.unusedSimpArgs false

-- BY HAND: function 39 (spin_Bits)

-- BY HAND: function 46 (spin_More)

/-! ### spin_Of: function 40 -/
def spin_Of.f (a0 : ByteArray) : Option (Int × Int) := (spin_More.f 1 0 a0).bind fun bt102 => (some (bt102.1, bt102.2))
set_option maxHeartbeats 8000000 in
set_option maxRecDepth 100000 in
theorem spin_Of.calls (a0 : ByteArray) (r1 : Int) (r2 : Int) (w : World) (h : spin_Of.f a0 = some (r1, r2)) :
    Calls Try.prog 40 #[.string a0] w fun e w' => e = .returned (.agg #[.int .i64 r1, .int .i64 r2]) ∧ Below w.heap.size w w' := by
  have hu56 := Try.underlying56
  have HB := Aside0.mk (Below.refl w.heap.size w)
  have H : ((spin_More.f 1 0 a0).bind fun bt102 => (some (bt102.1, bt102.2))) = some (r1, r2) := h
  clear h
  replace H := Option.bind_eq_some_iff.mp H
  obtain ⟨⟨t102, t103⟩, A20, H⟩ := H
  replace H : (some (t102, t103)) = some (r1, r2) := H
  have A2 := Aside0.mk A20
  clear A20
  simp only [Option.some.injEq, Prod.mk.injEq] at H
  obtain ⟨rfl, rfl⟩ := H
  go_enter Try.func40, Try.ntmps40
  go_wp2_with (first | ((with_reducible refine gate_dst (N := 2) rfl ?_); refine box_event ?hg (N := 2) ?hd (cs := #[.int .i64 0, .int .i64 0]) (t := 56) ?hr ?_; (case hd => rfl); (case hg => rfl); (case hr => first | (go_simp; done) | (go_simp; rfl)); intro gb101 hg w3 hbox hb; have n0_ := Aside0.mk (below_step (by repeat (first | (with_reducible first | exact HB.out | apply below_alloc | apply pw_below_drewN | apply below_drew1) | exact HB.out)) hb); have n1_ := Aside0.mk (hbox); have n2_ := Aside0.mk ((by rw [hg]; exact (below_size (by repeat (first | (with_reducible first | exact HB.out | apply below_alloc | apply pw_below_drewN | apply below_drew1) | exact HB.out))) : w.heap.size ≤ gb101)); have n3_ := Aside0.mk ((by rw [hg]; exact (below_size (by repeat (first | (with_reducible first | exact HB.out | apply below_alloc | apply pw_below_drewN | apply below_drew1) | exact HB.out))) : w.heap.size ≤ gb101)); clear HB; have HB := n0_; have BK101 := n1_; have GW101 := n2_; have GE101 := n3_; clear n0_ n1_ n2_ n3_; clear hb hbox hg) | ((with_reducible refine gate_callee (f := 46) rfl ?_); refine goesL_ (some 5) rfl rfl Try.func46 (by kernel_rfl) rfl #[.agg #[.int .i64 1, .int .i64 0], .string a0] rfl (by (try simp only [List.map_toArray, List.map_cons, List.map_nil]); first | done | rfl | (simp only [List.length_drop, List.length_take]; rfl)) ?_; (with_reducible refine (spin_More.calls 1 0 a0 t102 t103 _ A2.out).mono ?_); rintro e w4 ⟨rfl, hb⟩; refine ⟨_, rfl, ?_⟩; have n0_ := Aside0.mk (blk_below (g := gb101) (o := .cells #[.int .i64 0, .int .i64 0] 56 (0, 0)) (by (with_reducible repeat (first | refine blk_drewN ?_ _ | refine blk_drew ?_ | refine blk_alloc ?_ _)); exact BK101.out) hb); have n1_ := Aside0.mk (below_step (by repeat (first | (with_reducible first | exact HB.out | apply below_alloc | apply pw_below_drewN | apply below_drew1 | refine below_set ?_ GE101.out) | exact HB.out)) hb); clear BK101; clear HB; have BK101 := n0_; have HB := n1_; clear n0_ n1_; (try clear hb); (try clear hb2); (try clear hk); (try clear hi); have hcz5_0 : w4.cell? ⟨gb101, 0, none⟩ = some (.int .i64 0) := (blk_cell BK101.out 0).trans rfl; have hcz5_1 : w4.cell? ⟨gb101, 1, none⟩ = some (.int .i64 0) := (blk_cell BK101.out 1).trans rfl; have hfz5_0 := blk_frozen BK101.out 0; have hfz5_1 := blk_frozen BK101.out 1))
  refine bodyPost_ret (results_cell_row rfl _ _ gb101 56 #[.int .i64 t102, .int .i64 t103] (0, 0) _ rfl (by (with_reducible repeat (first | refine blk_drewN ?_ _ | refine blk_drew ?_ | refine blk_alloc ?_ _)); refine blk_put (cs := #[.int .i64 t102, .int .i64 0]) ?_ 1 _ rfl; (with_reducible repeat (first | refine blk_drewN ?_ _ | refine blk_drew ?_ | refine blk_alloc ?_ _)); refine blk_put (cs := #[.int .i64 0, .int .i64 0]) ?_ 0 _ rfl; (with_reducible repeat (first | refine blk_drewN ?_ _ | refine blk_drew ?_ | refine blk_alloc ?_ _)); exact BK101.out) Try.underlying56 rfl (by kernel_rfl)) rfl ?_
  exact ⟨by first | rfl | (simp [errW_none, errW_some] <;> rfl) | (simp [*, errW_none, errW_some] <;> rfl), by repeat (first | (with_reducible first | exact HB.out | apply below_alloc | apply pw_below_drewN | apply below_drew1 | refine below_set ?_ GE101.out) | exact HB.out)⟩

/-! ### entry_bits: function 29 -/
def entry_bits.f (a0 : ByteArray) : Option (Int) := (spin_Of.f a0).bind fun bt104 => ((spin_Bits.f bt104.1 bt104.2).bind fun t106 => (some t106))
set_option maxHeartbeats 8000000 in
set_option maxRecDepth 100000 in
theorem entry_bits.calls (a0 : ByteArray) (r : Int) (w : World) (h : entry_bits.f a0 = some r) :
    Calls Try.prog 29 #[.string a0] w fun e w' => e = .returned (.int .u8 r) ∧ Below w.heap.size w w' := by
  have HB := Aside0.mk (Below.refl w.heap.size w)
  have H : ((spin_Of.f a0).bind fun bt104 => ((spin_Bits.f bt104.1 bt104.2).bind fun t106 => (some t106))) = some r := h
  clear h
  replace H := Option.bind_eq_some_iff.mp H
  obtain ⟨⟨t104, t105⟩, A20, H⟩ := H
  replace H : ((spin_Bits.f t104 t105).bind fun t106 => (some t106)) = some r := H
  have A2 := Aside0.mk A20
  clear A20
  replace H := Option.bind_eq_some_iff.mp H
  obtain ⟨t106, A30, H⟩ := H
  replace H : (some t106) = some r := H
  have A3 := Aside0.mk A30
  clear A30
  obtain rfl := Option.some.inj H
  go_enter Try.func29, Try.ntmps29
  go_wp2_with (first | ((with_reducible refine gate_callee (f := 40) rfl ?_); refine goesL_ (some 4) rfl rfl Try.func40 (by kernel_rfl) rfl #[.string a0] rfl (by (try simp only [List.map_toArray, List.map_cons, List.map_nil]); first | done | rfl | (simp only [List.length_drop, List.length_take]; rfl)) ?_; (with_reducible refine (spin_Of.calls a0 t104 t105 _ A2.out).mono ?_); rintro e w4 ⟨rfl, hb⟩; refine ⟨_, rfl, ?_⟩; have n0_ := Aside0.mk (below_step (by repeat (first | (with_reducible first | exact HB.out | apply below_alloc | apply pw_below_drewN | apply below_drew1) | exact HB.out)) hb); clear HB; have HB := n0_; clear n0_; (try clear hb); (try clear hb2); (try clear hk); (try clear hi)) | ((with_reducible refine gate_callee (f := 39) rfl ?_); refine goesL_ (some 5) rfl rfl Try.func39 (by kernel_rfl) rfl #[.agg #[.int .i64 t104, .int .i64 t105]] rfl (by (try simp only [List.map_toArray, List.map_cons, List.map_nil]); first | done | rfl | (simp only [List.length_drop, List.length_take]; rfl)) ?_; (with_reducible refine (spin_Bits.calls t104 t105 t106 _ A3.out).mono ?_); rintro e w5 ⟨rfl, hb⟩; refine ⟨_, rfl, ?_⟩; have n0_ := Aside0.mk (below_step (by repeat (first | (with_reducible first | exact HB.out | apply below_alloc | apply pw_below_drewN | apply below_drew1) | exact HB.out)) hb); clear HB; have HB := n0_; clear n0_; (try clear hb); (try clear hb2); (try clear hk); (try clear hi)))
  go_ret
  exact ⟨by first | rfl | (simp [errW_none, errW_some] <;> rfl) | (simp [*, errW_none, errW_some] <;> rfl), by repeat (first | (with_reducible first | exact HB.out | apply below_alloc | apply pw_below_drewN | apply below_drew1) | exact HB.out)⟩

end Go.Proofs.Ytinfjmdcmfpdiaa.B

/- entry.Lay's walk. -/
namespace Go.Proofs.Ytinfjmdcmfpdiaa.La
open Go.RowKit Go.Proofs.Ytinfjmdcmfpdiaa.Rt Go.Proofs.Ytinfjmdcmfpdiaa.Sp Go.Proofs.YtinfjmdcmfpdiaaW.PrintWords Go.Proofs.YtinfjmdcmfpdiaaW.PrintLast Go.Proofs.YtinfjmdcmfpdiaaW.PrintMore
set_option linter.unusedVariables false
set_option linter.unusedSimpArgs false

/-- A name's bits. -/
def bitsOf (l : List UInt8) : Int := ((moreL 1 0 l).1 % 257 + 16 * ((moreL 1 0 l).2 % 257)) % 256
theorem bits_any (n : ByteArray) (hn : n.size ≤ maxLen) (w : World) : Calls Try.prog 29 #[.string n] w fun e w' => e = .returned (.int .u8 (bitsOf n.data.toList)) ∧ Below w.heap.size w w' := by
  refine B.entry_bits.calls n _ w ?_
  simp [B.entry_bits.f, B.spin_Of.f, P.spin_More.f, P.spin_Bits.f, hn, bitsOf]

/-- An entry's bytes. -/
def layL (n : ByteArray) (i : Int) : List Int := [(n.size : Int), bitsOf n.data.toList, i] ++ n.data.toList.map (fun b => (b.toNat : Int)) ++ List.replicate (13 - n.size) 0
theorem layL_len (n : ByteArray) (i : Int) (hn : n.size ≤ 13) : (layL n i).length = 16 := by
  have := Lib.size_eq n
  simp only [layL, List.length_append, List.length_map, List.length_replicate, List.length_cons, List.length_nil]
  omega
/-- As copy leaves them. -/
def layX (n : ByteArray) (i : Int) : Array Value := ((([.int .u8 (IntKind.u8.wrap (n.size : Int)), .int .u8 (bitsOf n.data.toList), .int .u8 (IntKind.u8.wrap i), .int .u8 0, .int .u8 0, .int .u8 0, .int .u8 0, .int .u8 0, .int .u8 0, .int .u8 0, .int .u8 0, .int .u8 0, .int .u8 0, .int .u8 0, .int .u8 0, .int .u8 0] : List Value).take 3) ++ Lib.byteCells n.data.toList ++ (([.int .u8 (IntKind.u8.wrap (n.size : Int)), .int .u8 (bitsOf n.data.toList), .int .u8 (IntKind.u8.wrap i), .int .u8 0, .int .u8 0, .int .u8 0, .int .u8 0, .int .u8 0, .int .u8 0, .int .u8 0, .int .u8 0, .int .u8 0, .int .u8 0, .int .u8 0, .int .u8 0, .int .u8 0] : List Value).drop (3 + n.size))).toArray
theorem u8_wrap (x : Int) (h0 : 0 ≤ x) (h1 : x < 256) : IntKind.u8.wrap x = x := by simp [IntKind.wrap, IntKind.signed, IntKind.bits]; omega
theorem layX_eq (n : ByteArray) (i : Int) (hn : n.size ≤ 13) (hi0 : 0 ≤ i) (hi1 : i < 64) : layX n i = (encs (Value.int .u8) (layL n i)).toArray := by
  have t1 : ∀ a b c : Value, ([a, b, c, .int .u8 0, .int .u8 0, .int .u8 0, .int .u8 0, .int .u8 0, .int .u8 0, .int .u8 0, .int .u8 0, .int .u8 0, .int .u8 0, .int .u8 0, .int .u8 0, .int .u8 0] : List Value).take 3 = [a, b, c] := fun _ _ _ => rfl
  have t2 : ∀ a b c : Value, ([a, b, c, .int .u8 0, .int .u8 0, .int .u8 0, .int .u8 0, .int .u8 0, .int .u8 0, .int .u8 0, .int .u8 0, .int .u8 0, .int .u8 0, .int .u8 0, .int .u8 0, .int .u8 0] : List Value).drop (3 + n.size) = List.replicate (13 - n.size) (.int .u8 0) := fun a b c => by
    rw [← List.drop_drop, ← List.drop_replicate]
    rfl
  unfold layX layL encs
  rw [u8_wrap _ (by omega) (by omega), u8_wrap i hi0 (by omega), t1, t2, List.map_append, List.map_append, List.map_replicate, List.map_map]
  rfl
/-- The entry's box, and a row of 16 bytes of which the first three may be written. -/
structure LayS (w : World) (n : ByteArray) (i : Int) (xb gb : Nat) (W : World) : Prop where
  box : W.heap[xb]? = some (.cells #[.string n, .int .i64 i] 23 (0, 0))
  row : ∃ cs : Array Value, W.heap[gb]? = some (.cells cs 5 (0, 0)) ∧ cs.size = 16
  ne : xb ≠ gb
  ge : w.heap.size ≤ gb
  below : Below w.heap.size w W
theorem LayS.step {w W W' : World} {n : ByteArray} {i : Int} {xb gb : Nat} (h : LayS w n i xb gb W) (hb : Below W.heap.size W W') : LayS w n i xb gb W' := by
  obtain ⟨cs, hr, hc⟩ := h.row
  exact ⟨blk_below h.box hb, ⟨cs, blk_below hr hb, hc⟩, h.ne, h.ge, below_step h.below hb⟩
theorem LayS.drew {w W : World} {n : ByteArray} {i : Int} {xb gb : Nat} (h : LayS w n i xb gb W) : LayS w n i xb gb W.drew := ⟨h.box, h.row, h.ne, h.ge, below_drew1 h.below⟩
theorem LayS.cells {w W : World} {n : ByteArray} {i : Int} {xb gb : Nat} (h : LayS w n i xb gb W) : W.cell? ⟨xb, 0, none⟩ = some (.string n) ∧ W.cell? ⟨xb, 1, none⟩ = some (.int .i64 i) :=
  ⟨(blk_cell h.box 0).trans rfl, (blk_cell h.box 1).trans rfl⟩
theorem LayS.put {w W : World} {n : ByteArray} {i : Int} {xb gb : Nat} (h : LayS w n i xb gb W) (k : Nat) (u : Value) (hk : k < 16) : LayS w n i xb gb (W.setCell ⟨gb, k, none⟩ u) := by
  obtain ⟨cs, hr, hc⟩ := h.row
  exact ⟨blk_far h.box h.ne _, ⟨_, blk_set hr k u, by simpa using hc⟩, h.ne, h.ge, below_set h.below h.ge⟩

theorem made16 : madeCells #[.int .u8 0] 16 = #[.int .u8 0, .int .u8 0, .int .u8 0, .int .u8 0, .int .u8 0, .int .u8 0, .int .u8 0, .int .u8 0, .int .u8 0, .int .u8 0, .int .u8 0, .int .u8 0, .int .u8 0, .int .u8 0, .int .u8 0, .int .u8 0] := by
  have h : madeCells #[.int .u8 0] 16 = Array.replicate 16 (.int .u8 0) := by
    apply Array.ext
    · simp [size_madeCells]
    · intro i h1 h2
      simp [madeCells, Nat.mod_one]
  rw [h]
  rfl

set_option maxHeartbeats 4000000 in
set_option maxRecDepth 100000 in
theorem lay_ok (n : ByteArray) (i : Int) (hr : rightB n.data.toList = true) (hn : n.size ≤ maxLen) (hi0 : 0 ≤ i) (hi1 : i < 64) (w : World) :
    Calls Try.prog 11 #[.agg #[.string n, .int .i64 i]] w fun e w' => ∃ v : Value, e = .returned (.tuple #[v, .int .i64 0]) ∧ Kd.R (Kd.int .u8) 5 w' w.heap.size (fun _ => True) v (layL n i) ∧ Below w.heap.size w w' := by
  have hn13 : n.size ≤ 13 := by
    simp only [rightB, Bool.and_eq_true, decide_eq_true_eq] at hr
    have := hr.1.1.1.2
    rw [← Lib.size_eq] at this
    exact this
  have hR := Lib.hid hr
  clear hr
  have hmk : ∀ W : World, (Instr.makeSlice 24 (.int .i64 16) (.int .i64 16)).run Try.prog W = .ok (.slice (some ⟨W.heap.size, 0, none⟩) 16 16) (W.alloc (.cells (madeCells #[.int .u8 0] 16) 5)) := print_make (P := Try.prog) 24 5 .u8 1 Try.underlying24 (by kernel_rfl) (by decide) 16 (by omega)
  have hl1 : decide (i < 0) = false := decide_eq_false (by omega)
  have hl2 : decide (i ≥ 64) = false := decide_eq_false (by omega)
  go_enter Try.func11, Try.ntmps11
  go_wp2_with fail
  have h0 := right_any n (w.alloc (.cells #[.string n, .int .i64 i] 23))
  rw [hR.out] at h0
  refine h0.mono ?_
  clear h0
  rintro e w1 ⟨rfl, hb⟩
  obtain ⟨hbox, hBw⟩ : w1.heap[w.heap.size]? = some (.cells #[.string n, .int .i64 i] 23 (0, 0)) ∧ Below w.heap.size w w1 := ⟨blk_below (blk_new w _) hb, below_step (below_alloc (Below.refl _ _) _) hb⟩
  have c0 : w1.cell? ⟨w.heap.size, 0, none⟩ = some (.string n) := (blk_cell hbox 0).trans rfl
  have c1 : w1.cell? ⟨w.heap.size, 1, none⟩ = some (.int .i64 i) := (blk_cell hbox 1).trans rfl
  replace hbox := Lib.hid hbox
  replace hBw := Lib.hid hBw
  clear hb
  have hrow : Hid ((w1.alloc (.cells (madeCells #[.int .u8 0] 16) 5)).heap[w1.heap.size]? = some (.cells (madeCells #[.int .u8 0] 16) 5 (0, 0))) := Lib.hid (blk_new _ _)
  have hS0 : LayS w n i w.heap.size w1.heap.size (w1.alloc (.cells (madeCells #[.int .u8 0] 16) 5)) :=
    ⟨blk_alloc hbox.out _, ⟨_, hrow.out, by simp [size_madeCells]⟩, by have := blk_lt hbox.out; omega, hBw.out.size, below_alloc hBw.out _⟩
  have hS0 := Lib.hid hS0
  go_wp2_with fail
  clear hmk c0 c1
  have hS0 := hS0.out
  refine start_ (n := 19) (S := LayS w n i w.heap.size w1.heap.size) (ds := []) #[false, false, false, false, false, false, false, false, false, false, false, false, false, false, false, false, false, false, false] (by kernel_rfl) rfl rfl (hS0.drew) (fun hHeld => ?_)
  refine pure_ (i := 0) (N := some 20) (v := ?_) (a' := ?_) #[true, false, false, false, false, false, false, false, false, false, false, false, false, false, false, false, false, false, false] rfl rfl (by kernel_rfl) (fun _ _ _ h => h) (Or.inl ⟨by rfl, ?_⟩) ?_ ?_
  rotate_left
  · intro w'
    go_simp
    with_reducible rfl
  rotate_left
  · simp only [Act.put, List.setIfInBounds_toArray, List.set_cons_zero, List.set_cons_succ, i64_w, i32_w]
    rfl
  refine pure_ (i := 1) (N := some 21) (v := ?_) (a' := ?_) #[true, true, false, false, false, false, false, false, false, false, false, false, false, false, false, false, false, false, false] rfl rfl (by kernel_rfl) (fun _ _ _ h => h) (Or.inl ⟨by rfl, ?_⟩) ?_ ?_
  rotate_left
  · intro w'
    go_simp
    with_reducible rfl
  rotate_left
  · simp only [Act.put, List.setIfInBounds_toArray, List.set_cons_zero, List.set_cons_succ, i64_w, i32_w]
    rfl
  refine pure_ (i := 2) (N := some 22) (v := ?_) (a' := ?_) #[true, true, true, false, false, false, false, false, false, false, false, false, false, false, false, false, false, false, false] rfl rfl (by kernel_rfl) (fun _ _ _ h => h) (Or.inl ⟨by rfl, ?_⟩) ?_ ?_
  rotate_left
  · intro w'
    go_simp
    with_reducible rfl
  rotate_left
  · simp only [Act.put, List.setIfInBounds_toArray, List.set_cons_zero, List.set_cons_succ, i64_w, i32_w]
    rfl
  refine pure_ (i := 3) (N := some 23) (v := ?_) (a' := ?_) #[true, true, true, true, false, false, false, false, false, false, false, false, false, false, false, false, false, false, false] rfl rfl (by kernel_rfl) (fun _ _ _ h => h) (Or.inl ⟨by rfl, ?_⟩) ?_ ?_
  rotate_left
  · intro w'
    go_simp
    with_reducible rfl
  rotate_left
  · simp only [Act.put, List.setIfInBounds_toArray, List.set_cons_zero, List.set_cons_succ, i64_w, i32_w]
    rfl
  refine take_ (i := 4) (N := some 24) (v := ?_) (a' := ?_) #[true, true, true, true, true, false, false, false, false, false, false, false, false, false, false, false, false, false, false] rfl rfl (by kernel_rfl) (fun _ _ _ h => h) (Or.inl ⟨by rfl, ?_⟩) hHeld ?_ ?_
  rotate_left
  · rintro w' hS
    obtain ⟨x0, x1⟩ := hS.cells
    go_simp
    with_reducible rfl
  rotate_left
  · simp only [Act.put, List.setIfInBounds_toArray, List.set_cons_zero, List.set_cons_succ, i64_w, i32_w]
    rfl
  refine pure_ (i := 5) (N := some 25) (v := ?_) (a' := ?_) #[true, true, true, true, true, true, false, false, false, false, false, false, false, false, false, false, false, false, false] rfl rfl (by kernel_rfl) (fun _ _ _ h => h) (Or.inl ⟨by rfl, ?_⟩) ?_ ?_
  rotate_left
  · intro w'
    go_simp
    with_reducible rfl
  rotate_left
  · simp only [Act.put, List.setIfInBounds_toArray, List.set_cons_zero, List.set_cons_succ, i64_w, i32_w]
    rfl
  refine pure_ (i := 6) (N := some 26) (v := ?_) (a' := ?_) #[true, true, true, true, true, true, true, false, false, false, false, false, false, false, false, false, false, false, false] rfl rfl (by kernel_rfl) (fun _ _ _ h => h) (Or.inl ⟨by rfl, ?_⟩) ?_ ?_
  rotate_left
  · intro w'
    go_simp
    with_reducible rfl
  rotate_left
  · simp only [Act.put, List.setIfInBounds_toArray, List.set_cons_zero, List.set_cons_succ, i64_w, i32_w]
    rfl
  refine pure_ (i := 7) (N := some 27) (v := ?_) (a' := ?_) #[true, true, true, true, true, true, true, true, false, false, false, false, false, false, false, false, false, false, false] rfl rfl (by kernel_rfl) (fun _ _ _ h => h) (Or.inl ⟨by rfl, ?_⟩) ?_ ?_
  rotate_left
  · intro w'
    go_simp
    with_reducible rfl
  rotate_left
  · simp only [Act.put, List.setIfInBounds_toArray, List.set_cons_zero, List.set_cons_succ, i64_w, i32_w]
    rfl
  refine take_ (i := 8) (N := some 28) (v := ?_) (a' := ?_) #[true, true, true, true, true, true, true, true, true, false, false, false, false, false, false, false, false, false, false] rfl rfl (by kernel_rfl) (fun _ _ _ h => h) (Or.inl ⟨by rfl, ?_⟩) hHeld ?_ ?_
  rotate_left
  · rintro w' hS
    obtain ⟨x0, x1⟩ := hS.cells
    go_simp
    with_reducible rfl
  rotate_left
  · simp only [Act.put, List.setIfInBounds_toArray, List.set_cons_zero, List.set_cons_succ, i64_w, i32_w]
    rfl
  refine pure_ (i := 10) (N := some 30) (v := ?_) (a' := ?_) #[true, true, true, true, true, true, true, true, true, false, true, false, false, false, false, false, false, false, false] rfl rfl (by kernel_rfl) (fun _ _ _ h => h) (Or.inl ⟨by rfl, ?_⟩) ?_ ?_
  rotate_left
  · intro w'
    go_simp
    with_reducible rfl
  rotate_left
  · simp only [Act.put, List.setIfInBounds_toArray, List.set_cons_zero, List.set_cons_succ, i64_w, i32_w]
    rfl
  refine take_ (i := 11) (N := some 31) (v := ?_) (a' := ?_) #[true, true, true, true, true, true, true, true, true, false, true, true, false, false, false, false, false, false, false] rfl rfl (by kernel_rfl) (fun _ _ _ h => h) (Or.inl ⟨by rfl, ?_⟩) hHeld ?_ ?_
  rotate_left
  · rintro w' hS
    obtain ⟨x0, x1⟩ := hS.cells
    go_simp
    with_reducible rfl
  rotate_left
  · simp only [Act.put, List.setIfInBounds_toArray, List.set_cons_zero, List.set_cons_succ, i64_w, i32_w]
    rfl
  refine pure_ (i := 12) (N := some 32) (v := ?_) (a' := ?_) #[true, true, true, true, true, true, true, true, true, false, true, true, true, false, false, false, false, false, false] rfl rfl (by kernel_rfl) (fun _ _ _ h => h) (Or.inl ⟨by rfl, ?_⟩) ?_ ?_
  rotate_left
  · intro w'
    go_simp
    with_reducible rfl
  rotate_left
  · simp only [Act.put, List.setIfInBounds_toArray, List.set_cons_zero, List.set_cons_succ, i64_w, i32_w]
    rfl
  refine one_ (i := 9) (N := some 29) #[true, true, true, true, true, true, true, true, true, true, true, true, true, false, false, false, false, false, false] rfl rfl (by kernel_rfl) (by decide) (fun K hK => ?_)
  refine goes_ Try.func29 (by kernel_rfl) rfl #[.string n] (by rfl) rfl rfl (by (try simp only [List.map_toArray, List.map_cons, List.map_nil]); first | done | rfl) ?_
  with_reducible refine (bits_any n hn _).mono ?_
  rintro e w4 ⟨rfl, hb4⟩
  refine ⟨_, rfl, ?_⟩
  refine hK.out _ _ (hHeld.step hb4) (fun hHeld => ?_)
  clear hK K
  refine norm_ (a' := ?_) ?_ ?_
  rotate_left
  · show Act.put _ (some 29) _ = _
    simp only [Act.put, List.setIfInBounds_toArray, List.set_cons_zero, List.set_cons_succ, i64_w, i32_w]
    rfl
  refine pure_ (i := 13) (N := some 33) (v := ?_) (a' := ?_) #[true, true, true, true, true, true, true, true, true, true, true, true, true, true, false, false, false, false, false] rfl rfl (by kernel_rfl) (fun _ _ _ h => h) (Or.inl ⟨by rfl, ?_⟩) ?_ ?_
  rotate_left
  · intro w'
    go_simp
    with_reducible rfl
  rotate_left
  · simp only [Act.put, List.setIfInBounds_toArray, List.set_cons_zero, List.set_cons_succ, i64_w, i32_w]
    rfl
  have hrow2 := blk_below (w := World.drew _) hrow.out hb4
  rw [made16] at hrow2
  clear hb4 hrow
  refine one_ (i := 14) (N := none) #[true, true, true, true, true, true, true, true, true, true, true, true, true, true, true, false, false, false, false] rfl rfl (by kernel_rfl) (by decide) (fun K hK => ?_)
  have hf := blk_frozen hrow2 0
  have hc := blk_cell hrow2 0
  refine skip_ (w1 := ?_) (by rfl) rfl ?_ ?_
  rotate_left
  · go_simp
    rfl
  have hrow3 := blk_put hrow2 0 (.int .u8 (IntKind.u8.wrap (n.size : Int))) rfl
  refine hK.out _ _ (hHeld.put 0 _ (by omega)) (fun hHeld => ?_)
  clear hK K hf hc hrow2
  refine pure_ (i := 15) (N := some 34) (v := ?_) (a' := ?_) #[true, true, true, true, true, true, true, true, true, true, true, true, true, true, true, true, false, false, false] rfl rfl (by kernel_rfl) (fun _ _ _ h => h) (Or.inl ⟨by rfl, ?_⟩) ?_ ?_
  rotate_left
  · intro w'
    go_simp
    with_reducible rfl
  rotate_left
  · simp only [Act.put, List.setIfInBounds_toArray, List.set_cons_zero, List.set_cons_succ, i64_w, i32_w]
    rfl
  refine one_ (i := 16) (N := none) #[true, true, true, true, true, true, true, true, true, true, true, true, true, true, true, true, true, false, false] rfl rfl (by kernel_rfl) (by decide) (fun K hK => ?_)
  have hf := blk_frozen hrow3 1
  have hc := blk_cell hrow3 1
  refine skip_ (w1 := ?_) (by rfl) rfl ?_ ?_
  rotate_left
  · go_simp
    rfl
  have hrow4 := blk_put hrow3 1 (.int .u8 (bitsOf n.data.toList)) rfl
  refine hK.out _ _ (hHeld.put 1 _ (by omega)) (fun hHeld => ?_)
  clear hK K hf hc hrow3
  refine pure_ (i := 17) (N := some 35) (v := ?_) (a' := ?_) #[true, true, true, true, true, true, true, true, true, true, true, true, true, true, true, true, true, true, false] rfl rfl (by kernel_rfl) (fun _ _ _ h => h) (Or.inl ⟨by rfl, ?_⟩) ?_ ?_
  rotate_left
  · intro w'
    go_simp
    with_reducible rfl
  rotate_left
  · simp only [Act.put, List.setIfInBounds_toArray, List.set_cons_zero, List.set_cons_succ, i64_w, i32_w]
    rfl
  refine one_ (i := 18) (N := none) #[true, true, true, true, true, true, true, true, true, true, true, true, true, true, true, true, true, true, true] rfl rfl (by kernel_rfl) (by decide) (fun K hK => ?_)
  have hf := blk_frozen hrow4 2
  have hc := blk_cell hrow4 2
  refine skip_ (w1 := ?_) (by rfl) rfl ?_ ?_
  rotate_left
  · go_simp
    rfl
  have hrow5 := blk_put hrow4 2 (.int .u8 (IntKind.u8.wrap i)) rfl
  refine hK.out _ _ (hHeld.put 2 _ (by omega)) (fun hHeld => ?_)
  clear hK K hf hc hrow4
  refine done_ (by kernel_rfl) ?_
  replace hrow5 := Lib.hid hrow5
  go_wp2_with fail
  obtain ⟨cs, hcs, hcp⟩ : ∃ cs : Array Value, cs = layX n i ∧ ∀ W : World, W.heap[w1.heap.size]? = some (.cells (((#[.int .u8 0, .int .u8 0, .int .u8 0, .int .u8 0, .int .u8 0, .int .u8 0, .int .u8 0, .int .u8 0, .int .u8 0, .int .u8 0, .int .u8 0, .int .u8 0, .int .u8 0, .int .u8 0, .int .u8 0, .int .u8 0].setIfInBounds 0 (.int .u8 (IntKind.u8.wrap (n.size : Int)))).setIfInBounds 1 (.int .u8 (bitsOf n.data.toList))).setIfInBounds 2 (.int .u8 (IntKind.u8.wrap i))) 5 (0, 0)) →
      (Builtin.copy_ #[24, 9] 3 #[.slice (some ⟨w1.heap.size, 3, none⟩) 13 13, .string n]).run Try.prog W = .ok (goInt n.size) (W.setRow w1.heap.size cs) :=
    ⟨_, rfl, fun W h => Lib.run_copy_row_string W 24 9 3 5 w1.heap.size 3 13 13 n _ 5 Try.underlying24 (by kernel_rfl) h hn13 (by simp; omega)⟩
  replace hcs := Lib.hid hcs
  replace hcp := Lib.hid hcp
  refine start_ (n := 5) (S := LayS w n i w.heap.size w1.heap.size) (ds := [4]) #[false, false, false, false, false] (by kernel_rfl) rfl rfl (hHeld.drew) (fun hHeld => ?_)
  refine pure_ (i := 0) (N := some 36) (v := ?_) (a' := ?_) #[true, false, false, false, false] rfl rfl (by kernel_rfl) (fun _ _ _ h => h) (Or.inl ⟨by rfl, ?_⟩) ?_ ?_
  rotate_left
  · intro w'
    go_simp
    with_reducible rfl
  rotate_left
  · simp only [Act.put, List.setIfInBounds_toArray, List.set_cons_zero, List.set_cons_succ, i64_w, i32_w]
    rfl
  refine pure_ (i := 1) (N := some 37) (v := ?_) (a' := ?_) #[true, true, false, false, false] rfl rfl (by kernel_rfl) (fun _ _ _ h => h) (Or.inl ⟨by rfl, ?_⟩) ?_ ?_
  rotate_left
  · intro w'
    go_simp
    with_reducible rfl
  rotate_left
  · simp only [Act.put, List.setIfInBounds_toArray, List.set_cons_zero, List.set_cons_succ, i64_w, i32_w]
    rfl
  refine pure_ (i := 2) (N := some 38) (v := ?_) (a' := ?_) #[true, true, true, false, false] rfl rfl (by kernel_rfl) (fun _ _ _ h => h) (Or.inl ⟨by rfl, ?_⟩) ?_ ?_
  rotate_left
  · intro w'
    go_simp
    with_reducible rfl
  rotate_left
  · simp only [Act.put, List.setIfInBounds_toArray, List.set_cons_zero, List.set_cons_succ, i64_w, i32_w]
    rfl
  refine take_ (i := 3) (N := some 39) (v := ?_) (a' := ?_) #[true, true, true, true, false] rfl rfl (by kernel_rfl) (fun _ _ _ h => h) (Or.inl ⟨by rfl, ?_⟩) hHeld ?_ ?_
  rotate_left
  · rintro w' hS
    obtain ⟨x0, x1⟩ := hS.cells
    go_simp
    with_reducible rfl
  rotate_left
  · simp only [Act.put, List.setIfInBounds_toArray, List.set_cons_zero, List.set_cons_succ, i64_w, i32_w]
    rfl
  refine last_ (i := 4) (N := some 40) #[true, true, true, true, true] rfl rfl (by kernel_rfl) (by decide) (fun K hK => ?_)
  rw [if_pos (by rfl)]
  unfold Oper.wp
  go_simp
  rw [hcp.out _ (blk_drew hrow5.out)]
  simp only [Result.andThen]
  rw [Oper.upon_value]
  have hrow6 := Lib.hid (setRow_heap _ w1.heap.size _ cs _ _ (blk_drew hrow5.out))
  have hB6 := Lib.hid (below_setRow hHeld.below hBw.out.size cs)
  clear hrow5 hHeld
  refine hK.out _ _ ?_
  clear hK K
  refine done_ (by kernel_rfl) ?_
  go_wp2_with fail
  go_ret2
  have hx : cs = (encs (Value.int .u8) (layL n i)).toArray := hcs.out.trans (layX_eq n i hn13 hi0 hi1)
  have hlen := layL_len n i hn13
  have h6 := hrow6.out
  have h7 := hB6.out
  rw [u8_wrap _ (by omega) (by omega), u8_wrap i hi0 (by omega)] at h6 h7
  refine ⟨_, rfl, Kd.R_of_own ⟨by simp [encs], .inr ⟨w1.heap.size, 16, cs, by rw [hlen]; rfl, hBw.out.size, h6, by omega, by decide, by rw [hx]; simp [encs, hlen], by rw [hx]; exact List.take_of_length_le (by simp [encs])⟩⟩ (fun _ _ => trivial), h7⟩
end Go.Proofs.Ytinfjmdcmfpdiaa.La

/- entry.Lay: every entry. -/
namespace Go.Proofs.Ytinfjmdcmfpdiaa.La
open Go.RowKit Go.Proofs.Ytinfjmdcmfpdiaa.Rt Go.Proofs.Ytinfjmdcmfpdiaa.Sp Go.Proofs.YtinfjmdcmfpdiaaW.PrintWords Go.Proofs.YtinfjmdcmfpdiaaW.PrintLast Go.Proofs.YtinfjmdcmfpdiaaW.PrintMore
set_option linter.unusedVariables false
set_option linter.unusedSimpArgs false

set_option maxHeartbeats 2000000 in
set_option maxRecDepth 100000 in
theorem lay_name (n : ByteArray) (i : Int) (hr : rightB n.data.toList = false) (w : World) :
    Calls Try.prog 11 #[.agg #[.string n, .int .i64 i]] w fun e w' => ∃ v : Value, e = .returned (.tuple #[v, .int .i64 120]) ∧ Kd.R (Kd.int .u8) 5 w' w.heap.size (fun _ => True) v [] ∧ Below w.heap.size w w' := by
  have hR := Lib.hid hr
  clear hr
  go_enter Try.func11, Try.ntmps11
  go_wp2_with fail
  have h0 := right_any n (w.alloc (.cells #[.string n, .int .i64 i] 23))
  rw [hR.out] at h0
  refine h0.mono ?_
  clear h0
  rintro e w1 ⟨rfl, hb⟩
  have hBw := Lib.hid (below_step (below_alloc (Below.refl _ _) _) hb)
  clear hb
  go_wp2_with fail
  go_ret2
  exact ⟨_, rfl, Kd.R_nil _ _ _ _ _, hBw.out⟩

set_option maxHeartbeats 2000000 in
set_option maxRecDepth 100000 in
theorem lay_arg (n : ByteArray) (i : Int) (hr : rightB n.data.toList = true) (hi : i < 0 ∨ 64 ≤ i) (w : World) :
    Calls Try.prog 11 #[.agg #[.string n, .int .i64 i]] w fun e w' => ∃ v : Value, e = .returned (.tuple #[v, .int .i64 1]) ∧ Kd.R (Kd.int .u8) 5 w' w.heap.size (fun _ => True) v [] ∧ Below w.heap.size w w' := by
  have hR := Lib.hid hr
  clear hr
  go_enter Try.func11, Try.ntmps11
  go_wp2_with fail
  have h0 := right_any n (w.alloc (.cells #[.string n, .int .i64 i] 23))
  rw [hR.out] at h0
  refine h0.mono ?_
  clear h0
  rintro e w1 ⟨rfl, hb⟩
  obtain ⟨hbox, hBw⟩ : w1.heap[w.heap.size]? = some (.cells #[.string n, .int .i64 i] 23 (0, 0)) ∧ Below w.heap.size w w1 := ⟨blk_below (blk_new w _) hb, below_step (below_alloc (Below.refl _ _) _) hb⟩
  have c1 : w1.cell? ⟨w.heap.size, 1, none⟩ = some (.int .i64 i) := (blk_cell hbox 1).trans rfl
  replace hBw := Lib.hid hBw
  clear hb hbox
  by_cases h : i < 0
  · have hl1 : decide (i < 0) = true := decide_eq_true h
    go_wp2_with fail
    go_ret2
    exact ⟨_, rfl, Kd.R_nil _ _ _ _ _, hBw.out⟩
  · have hl1 : decide (i < 0) = false := decide_eq_false h
    have hl2 : decide (i ≥ 64) = true := decide_eq_true (by omega)
    go_wp2_with fail
    go_ret2
    exact ⟨_, rfl, Kd.R_nil _ _ _ _ _, hBw.out⟩
/-- What entry.Lay answers. -/
def layA (n : ByteArray) (i : Int) : List Int × Int := if rightB n.data.toList = true then (if 0 ≤ i ∧ i < 64 then (layL n i, 0) else ([], 1)) else ([], 120)
theorem lay_any (n : ByteArray) (i : Int) (w : World) :
    Calls Try.prog 11 #[.agg #[.string n, .int .i64 i]] w fun e w' => ∃ v : Value, e = .returned (.tuple #[v, .int .i64 (layA n i).2]) ∧ Kd.R (Kd.int .u8) 5 w' w.heap.size (fun _ => True) v (layA n i).1 ∧ Below w.heap.size w w' := by
  unfold layA
  by_cases hr : rightB n.data.toList = true
  · rw [if_pos hr]
    by_cases hi : 0 ≤ i ∧ i < 64
    · rw [if_pos hi]
      have hn : n.size ≤ maxLen := by
        have h := hr
        simp only [rightB, Bool.and_eq_true, decide_eq_true_eq] at h
        have := h.1.1.1.2
        rw [← Lib.size_eq] at this
        unfold maxLen
        omega
      exact lay_ok n i hr hn hi.1 hi.2 w
    · rw [if_neg hi]; exact lay_arg n i hr (by omega) w
  · rw [if_neg hr]; exact lay_name n i (Bool.eq_false_iff.2 hr) w
end Go.Proofs.Ytinfjmdcmfpdiaa.La

/- The contract of entry.Lay in the form in which the printed contracts take a callee. -/
namespace Go.Proofs.Ytinfjmdcmfpdiaa.P
open Go.RowKit Go.Proofs.YtinfjmdcmfpdiaaW.PrintWords
def entry_Lay.f (a0_0 : ByteArray) (a0_1 : Int) : Option (List Int × Int) := some (La.layA a0_0 a0_1)
theorem entry_Lay.calls (a0_0 : ByteArray) (a0_1 : Int) (r1 : List Int) (r2 : Int) (w : World) (h : entry_Lay.f a0_0 a0_1 = some (r1, r2)) :
    Calls Try.prog 11 #[.agg #[.string a0_0, .int .i64 a0_1]] w fun e w' => ∃ v0_ : Value, e = .returned (.tuple #[v0_, .int .i64 r2]) ∧ Kd.R (Kd.int .u8) 5 w' w.heap.size (fun _ => True) v0_ r1 ∧ Below w.heap.size w w' := by
  injection h with h
  have := La.lay_any a0_0 a0_1 w
  rw [h] at this
  exact this
end Go.Proofs.Ytinfjmdcmfpdiaa.P

/- entry.free: whether sixteen zeros. One printed walk, mended where the slice may be nil. -/
namespace Go.Proofs.Ytinfjmdcmfpdiaa.P
open Go.RowKit Go.Proofs.YtinfjmdcmfpdiaaW.PrintWords Go.Proofs.YtinfjmdcmfpdiaaW.PrintLast Go.Proofs.YtinfjmdcmfpdiaaW.PrintMore
set_option linter.unusedVariables false
set_option linter.unusedSimpArgs false
theorem info_u8 : (Try.prog.info? 5).map (fun i => (i.zero, i.size, i.bytes)) = some (some (.int .u8 0), 1, 1) := by kernel_rfl
def entry_free.f (l0 : List Int) : Option (Bool) := if 16 ≤ 281474976710656 then (some ((strOfNums l0).toList == (strOfNums (List.replicate 16 0)).toList)) else (none)
set_option maxHeartbeats 8000000 in
set_option maxRecDepth 100000 in
theorem entry_free.calls (A0 : Option Addr) (c0 : Nat) (l0 : List Int) (r : Bool) (w : World) (hr0 : Kd.C (Kd.int .u8) w A0 l0.length l0) (hc0 : l0.length ≤ c0) (h : entry_free.f l0 = some r) :
    Calls Try.prog 33 #[.slice A0 l0.length c0] w fun e w' => e = .returned (.bool r) ∧ Below w.heap.size w w' := by
  have HR0 := Aside0.mk hr0
  have HC0 := Aside0.mk hc0
  clear hr0 hc0
  have HB := Aside0.mk (Below.refl w.heap.size w)
  have H : (if 16 ≤ 281474976710656 then (some ((strOfNums l0).toList == (strOfNums (List.replicate 16 0)).toList)) else (none)) = some r := h
  clear h
  by_cases c2 : 16 ≤ 281474976710656
  · rw [if_pos c2] at H
    have c2b0 := eq_true c2
    have c2b1 : decide (16 ≤ 281474976710656) = true := decide_eq_true c2
    clear c2
    obtain ⟨y101, hy101⟩ : ∃ y_ : List Int, y_ = (List.replicate 16 0) := ⟨_, rfl⟩
    replace H : (some ((strOfNums l0).toList == (strOfNums y101).toList)) = some r := by first | (rw [hy101]; with_reducible exact H) | (have H2_ := (Option.bind_some _ _).symm.trans H; rw [hy101]; with_reducible exact H2_) | (have H2_ := (Option.bind_some _ _).symm.trans H; with_reducible exact H2_) | with_reducible exact H | (rw [hy101]; exact H) | exact H
    have Ny101 := Aside0.mk hy101
    clear hy101
    obtain rfl := Option.some.inj H
    go_enter Try.func33, Try.ntmps33
    try go_wp2
    have n0_ := Aside0.mk (below_drew1 HB.out)
    clear HB
    have HB := n0_
    clear n0_
    refine start_ (n := 6) (S := fun w' => Aside0 (Kd.C (Kd.int .u8) w' A0 l0.length l0)) (ds := []) #[false, false, false, false, false, false] (by kernel_rfl) rfl rfl (Aside0.mk (Kd.C_below HR0.out HB.out)) (fun hHeld => ?_)
    refine pure_ (i := 0) (N := some 3) (v := ?_) (a' := ?_) #[true, false, false, false, false, false] rfl rfl (by kernel_rfl) (fun _ _ _ h => h) (Or.inl ⟨by rfl, ?_⟩) ?_ ?_
    rotate_left
    · intro w'
      go_simp
      with_reducible rfl
    rotate_left
    · simp only [Act.put, List.setIfInBounds_toArray, List.set_cons_zero, List.set_cons_succ, i64_w, i32_w]
      rfl
    refine take_ (i := 1) (N := some 4) (v := ?_) (a' := ?_) #[true, true, false, false, false, false] rfl rfl (by kernel_rfl) (fun _ _ _ h => h) (Or.inl ⟨by rfl, ?_⟩) hHeld ?_ ?_
    rotate_left
    · intro w' hS
      have hcv4 := Kd.C_string (P := Try.prog) (A := A0) (c := c0) Try.underlying24 Try.underlying5 Try.underlying9 hS.out
      go_simp
      with_reducible rfl
    rotate_left
    · simp only [Act.put, List.setIfInBounds_toArray, List.set_cons_zero, List.set_cons_succ, i64_w, i32_w]
      rfl
    refine one_ (i := 2) (N := some 5) #[true, true, true, false, false, false] rfl rfl (by kernel_rfl) (by decide) (fun K hK => ?_)
    refine Kd.R_make_step (Kd.int .u8) _ 5 (by rfl) (N := 5) rfl 24 _ _ rfl 16 rfl rfl Try.underlying24 (.int .u8 0) 1 info_u8 rfl (by decide) (by omega) 0 (ok := fun _ => True) (okp := fun _ => True) rfl (fun _ hk => hk) trivial (by omega) (by omega) (Below.refl _ _) (Nat.le_refl _) ?_
    intro v102 w5 ho6 hb hg_ hnew_
    clear hg_ hnew_
    (first | rw [← Ny101.out] at ho6 | (simp only [Int.reduceToNat] at ho6; rw [← Ny101.out] at ho6))
    have n0_ := Aside0.mk (Kd.R_lower ho6 (below_size (by repeat (first | (with_reducible first | exact HB.out | apply below_alloc | apply pw_below_drewN | apply below_drew1) | exact HB.out))))
    have n1_ := Aside0.mk (below_step (by repeat (first | (with_reducible first | exact HB.out | apply below_alloc | apply pw_below_drewN | apply below_drew1) | exact HB.out)) hb)
    clear HB
    have HO103 := n0_
    have HB := n1_
    clear n0_ n1_
    clear hb ho6
    refine hK.out _ _ (Aside0.mk (Kd.C_below HR0.out HB.out)) (fun hHeld => ?_)
    clear hK K
    refine norm_ (a' := ?_) ?_ ?_
    rotate_left
    · show Act.put _ (some 5) _ = _
      simp only [Act.put, List.setIfInBounds_toArray, List.set_cons_zero, List.set_cons_succ, i64_w, i32_w]
      rfl
    refine one_ (i := 3) (N := some 6) #[true, true, true, true, false, false] rfl rfl (by kernel_rfl) (by decide) (fun K hK => ?_)
    have hcv7 := own_string (P := Try.prog) Try.underlying24 Try.underlying5 Try.underlying9 (Kd.own_of_R HO103.out)
    refine value_ (w1 := ?_) (v := ?_) (by rfl) rfl ?_ ?_
    rotate_left 2
    · go_simp
      constructor
      · rfl
      · rfl
    clear hcv7
    refine hK.out _ _ (Aside0.mk (Kd.C_below HR0.out HB.out)) (fun hHeld => ?_)
    clear hK K
    refine norm_ (a' := ?_) ?_ ?_
    rotate_left
    · show Act.put _ (some 6) _ = _
      simp only [Act.put, List.setIfInBounds_toArray, List.set_cons_zero, List.set_cons_succ, i64_w, i32_w]
      rfl
    refine pure_ (i := 4) (N := some 7) (v := ?_) (a' := ?_) #[true, true, true, true, true, false] rfl rfl (by kernel_rfl) (fun _ _ _ h => h) (Or.inl ⟨by rfl, ?_⟩) ?_ ?_
    rotate_left
    · intro w'
      go_simp
      with_reducible rfl
    rotate_left
    · simp only [Act.put, List.setIfInBounds_toArray, List.set_cons_zero, List.set_cons_succ, i64_w, i32_w]
      rfl
    refine pure_ (i := 5) (N := some 2) (v := ?_) (a' := ?_) #[true, true, true, true, true, true] rfl rfl (by kernel_rfl) (fun _ _ _ h => h) (Or.inl ⟨by rfl, ?_⟩) ?_ ?_
    rotate_left
    · intro w'
      go_simp
      with_reducible rfl
    rotate_left
    · simp only [Act.put, List.setIfInBounds_toArray, List.set_cons_zero, List.set_cons_succ, i64_w, i32_w]
      rfl
    refine done_ (by kernel_rfl) ?_
    try go_wp2
    go_ret
    exact ⟨by first | rfl | (simp [errW_none, errW_some] <;> rfl) | (simp [*, errW_none, errW_some] <;> rfl), by repeat (first | (with_reducible first | exact HB.out | apply below_alloc | apply pw_below_drewN | apply below_drew1) | exact HB.out)⟩
  · rw [if_neg c2] at H
    exact absurd H (by simp)
end Go.Proofs.Ytinfjmdcmfpdiaa.P

/- Contracts of functions that the statements reach: each call's answer as a plain Lean function. Printed by a program of this session (over the kit's print) out of the translation; Lean checks it. -/
namespace Go.Proofs.Ytinfjmdcmfpdiaa.C
open Go.RowKit Go.Proofs.YtinfjmdcmfpdiaaW.PrintWords Go.Proofs.YtinfjmdcmfpdiaaW.PrintLast Go.Proofs.YtinfjmdcmfpdiaaW.PrintMore
set_option linter.unusedVariables false
set_option linter.unusedSimpArgs false



def errW : Option Int → Value
  | none => .nilIface
  | some c => .iface 0 (.int .i64 c)
theorem errW_none : errW none = .nilIface := rfl
theorem errW_some (c : Int) : errW (some c) = .iface 0 (.int .i64 c) := rfl

theorem info5 : (Try.prog.info? 5).map (fun i => (i.zero, i.size, i.bytes)) = some (some (.int .u8 0), 1, 1) := by kernel_rfl
-- the values' own types

end Go.Proofs.Ytinfjmdcmfpdiaa.C
