/- Walks and plain laws on which the claim stands, several texts joined. -/
import Derived.Test.YtinfjmdcmfpdiaaM4
import Derived.Test.YtinfjmdcmfpdiaaM1
import Derived.Test.YtinfjmdcmfpdiaaM2
import Derived.Test.YtinfjmdcmfpdiaaM0
import Derived.Test.YtinfjmdcmfpdiaaProg
import Derived.Below
import Derived.Deep.Draws
import Derived.Deep.AppendLies
import Derived.Maps.AppendAt
import Derived.OwnWalk
import Derived.Laws.BytesArg
import Derived.Laws.MakeOwn
import Derived.Laws.OwnMore
import Derived.Deep.OwnRows
import Derived.Tactics
import Derived.Lib.ConvBytes
import Derived.Laws.Slices
import Derived.WalkKit
import Derived.KernelRfl
import Derived.RowKit3
import Derived.Deep.LoopGhost
import Derived.Deep.QuietTactic
import Derived.BigQuiet
import Derived.WideLaws
import Derived.Deep.DeepCutAuto
import Derived.Deep.CutBlock
import Derived.Deep.RegionHeld3
import Derived.Laws.Rows
import Derived.Lib.AppendStr
import Derived.ArgAppend
import Derived.Laws.IdiomCopy
import Derived.OrdersHeld
import Derived.Laws.BitsLemmas
import Derived.RowKit
import Derived.Test.YtinfjmdcmfpdiaaWWords
import Derived.Test.YtinfjmdcmfpdiaaWLast
import Derived.Test.YtinfjmdcmfpdiaaWTab
import Derived.Test.YtinfjmdcmfpdiaaWEqStruct
import Derived.Test.YtinfjmdcmfpdiaaWGuard

/- Plain laws of the reference's parts: moatref02.Of and Bits, moatref12.Right, moatref01.Fill. No walk. -/
namespace Go.Proofs.Ytinfjmdcmfpdiaa.Rc
open Go.RowKit Go.Proofs.Ytinfjmdcmfpdiaa.C Go.Proofs.Ytinfjmdcmfpdiaa.Sp Go.Proofs.YtinfjmdcmfpdiaaW.PrintWords Go.Proofs.YtinfjmdcmfpdiaaW.PrintLast Go.Proofs.YtinfjmdcmfpdiaaW.PrintMore

theorem rest_eq (n : Int) : moatref02_rest.f n = some (n % 257) := by
  unfold moatref02_rest.f
  rcases tmod_cases n with h | h
  · rw [if_neg (by omega), h]
  · by_cases h0 : n.tmod 257 < 0
    · rw [if_pos h0]; congr 1; unfold wrap64; omega
    · rw [if_neg h0]; congr 1; omega

theorem norm_eq (x y : Int) : moatref02_Norm.f x y = some (x % 257, y % 257) := by
  unfold moatref02_Norm.f; simp only [rest_eq, Option.bind_some]

theorem wrap_small {n : Int} (h : n.natAbs < 1000000) : wrap64 n = n := by unfold wrap64; omega

theorem rturn_eq (a b c d : Int) : moatref02_Turn.f a b c d = some (turnX a b c d % 257, turnY a b c d % 257) := by
  have h1 := mul_bound (x := a % 257) (y := c % 257) (by omega) (by omega)
  have h2 := mul_bound (x := b % 257) (y := d % 257) (by omega) (by omega)
  have h3 := mul_bound (x := a % 257) (y := d % 257) (by omega) (by omega)
  have h4 := mul_bound (x := b % 257) (y := c % 257) (by omega) (by omega)
  unfold moatref02_Turn.f turnX turnY
  simp only [norm_eq, Option.bind_some, rest_eq]
  rw [wrap_small (n := a % 257 * (c % 257)) (by omega), wrap_small (n := b % 257 * (d % 257)) (by omega), wrap_small (n := a % 257 * (d % 257)) (by omega), wrap_small (n := b % 257 * (c % 257)) (by omega),
    wrap_small (n := a % 257 * (c % 257) - b % 257 * (d % 257)) (by omega), wrap_small (n := a % 257 * (d % 257) + b % 257 * (c % 257)) (by omega)]

theorem rpush_eq (a b c d : Int) : moatref02_Push.f a b c d = some ((a % 257 + c % 257) % 257, (b % 257 + d % 257) % 257) := by
  unfold moatref02_Push.f
  simp only [norm_eq, Option.bind_some, rest_eq]
  rw [wrap_small (n := a % 257 + c % 257) (by omega), wrap_small (n := b % 257 + d % 257) (by omega)]

theorem bt_get (s : ByteArray) (k : Nat) (h : k < s.size) : bt s (k : Int) = (s[k].toNat : Int) := by
  unfold bt
  rw [dif_pos (by simpa using h)]; simp

theorem wrap_byte (s : ByteArray) (i : Int) : wrap64 (bt s i) = bt s i := by
  have := bt_range s i
  unfold wrap64; omega

theorem rmore_step (x y : Int) (c : Int) (hc : 0 ≤ c ∧ c ≤ 255) (hx : 0 ≤ x ∧ x < 257) (hy : 0 ≤ y ∧ y < 257) :
    ((moatref02_Turn.f x y 3 2).bind fun t => moatref02_Push.f t.1 t.2 (wrap64 (c + 1)) (Int.tmod c 7)) = some ((x * 3 - y * 2 + (c + 1)) % 257, (x * 2 + y * 3 + c % 7) % 257) := by
  rw [rturn_eq, Option.bind_some, rpush_eq]
  unfold turnX turnY
  have e1 : x % 257 = x := by omega
  have e2 : y % 257 = y := by omega
  have e3 : wrap64 (c + 1) = c + 1 := by unfold wrap64; omega
  have e4 : Int.tmod c 7 = c % 7 := by
    obtain ⟨n, rfl⟩ := Int.eq_ofNat_of_zero_le hc.1; rfl
  simp only [e1, e2, e3, e4, Option.some.injEq, Prod.mk.injEq]
  omega

theorem rmore_loop (s : ByteArray) (hs : s.size ≤ 20000) (d : Nat) : ∀ (k i : Nat) (x y : Int), (0 ≤ x ∧ x < 257) → (0 ≤ y ∧ y < 257) → i + d = s.size → d < k →
    moatref02_More.l0 k s i x y = some ((s.data.toList.drop i).foldl stepM (x, y)) := by
  induction d with
  | zero =>
    intro k i x y hx hy hd hk
    obtain ⟨k, rfl⟩ : ∃ m, k = m + 1 := ⟨k - 1, by omega⟩
    simp only [moatref02_More.l0]
    rw [if_neg (by omega), List.drop_of_length_le (by simp; omega)]; rfl
  | succ d ih =>
    intro k i x y hx hy hd hk
    obtain ⟨k, rfl⟩ : ∃ m, k = m + 1 := ⟨k - 1, by omega⟩
    have hlt : i < s.size := by omega
    have hst := rmore_step x y (bt s i) (bt_range s i) hx hy
    simp only [moatref02_More.l0]
    rw [if_pos (by omega)]
    rw [wrap_byte]
    obtain ⟨⟨t1, t2⟩, ht⟩ : ∃ t, moatref02_Turn.f x y 3 2 = some t := ⟨_, rturn_eq _ _ _ _⟩
    rw [ht, Option.bind_some] at hst
    rw [ht, Option.bind_some, if_pos (by omega)]
    rw [hst, Option.bind_some]
    have hw : wrap64 ((i : Int) + 1) = ((i + 1 : Nat) : Int) := by unfold wrap64; omega
    rw [hw, ih k (i + 1) _ _ (by omega) (by omega) (by omega) (by omega)]
    rw [List.drop_eq_getElem_cons (i := i) (by simpa using hlt), List.foldl_cons]
    congr 2
    unfold stepM
    rw [bt_get s i hlt]; rfl

theorem rmore_eq (x y : Int) (s : ByteArray) (hs : s.size ≤ 20000) : moatref02_More.f 20001 x y s = some (moreL x y s.data.toList) := by
  unfold moatref02_More.f
  rw [norm_eq, Option.bind_some]
  have := rmore_loop s hs s.size 20001 0 (x % 257) (y % 257) (by omega) (by omega) (by omega) (by omega)
  rw [List.drop_zero] at this
  exact this

theorem rof_eq (s : ByteArray) (hs : s.size ≤ 20000) : moatref02_Of.f 20001 s = some (moreL 1 0 s.data.toList) := by
  unfold moatref02_Of.f
  rw [rmore_eq _ _ _ hs, Option.bind_some]

theorem rbits_eq (x y : Int) : moatref02_Bits.f x y = some ((x % 257 + 16 * (y % 257)) % 256) := by
  unfold moatref02_Bits.f
  rw [norm_eq, Option.bind_some]
  dsimp only
  rw [wrap_small (n := 16 * (y % 257)) (by omega), wrap_small (n := x % 257 + 16 * (y % 257)) (by omega)]
  congr 1
  obtain ⟨n, hn⟩ := Int.eq_ofNat_of_zero_le (show 0 ≤ x % 257 + 16 * (y % 257) by omega)
  rw [hn]
  have : Int.tmod (n : Int) 256 = (n : Int) % 256 := rfl
  omega

/-- The reference's bits of a name. -/
theorem rbitsOf (s : ByteArray) (hs : s.size ≤ 20000) : ∃ x y, moatref02_Of.f 20001 s = some (x, y) ∧ moatref02_Bits.f x y = some (La.bitsOf s.data.toList) :=
  ⟨_, _, rof_eq s hs, rbits_eq _ _⟩

theorem bt_nat (s : ByteArray) (i : Nat) (h : i < s.data.toList.length) : bt s (i : Int) = ((s.data.toList[i]).toNat : Int) := by
  have h' : i < s.size := by rw [Lib.size_eq]; exact h
  rw [bt_get s i h']; rfl
theorem right_loop (s : ByteArray) (d : Nat) : ∀ (k i : Nat), i + d = s.size → s.size ≤ 13 → d < k → moatref12_Right.l0 k s i = some (!((s.data.toList.drop i).contains 0 || (s.data.toList.drop i).contains 47)) := by
  induction d with
  | zero =>
    intro k i hd h13 hk
    obtain ⟨k, rfl⟩ : ∃ m, k = m + 1 := ⟨k - 1, by omega⟩
    simp only [moatref12_Right.l0]
    rw [if_neg (by omega), List.drop_of_length_le (by rw [← Lib.size_eq]; omega)]; rfl
  | succ d ih =>
    intro k i hd h13 hk
    obtain ⟨k, rfl⟩ : ∃ m, k = m + 1 := ⟨k - 1, by omega⟩
    have hl := Lib.size_eq s
    have hlt : i < s.data.toList.length := by omega
    simp only [moatref12_Right.l0]
    rw [if_pos (by omega), if_pos (by omega), bt_nat s i hlt, List.drop_eq_getElem_cons hlt]
    generalize s.data.toList[i] = c
    by_cases h0 : c = 0
    · subst h0; rw [if_pos (by rfl)]; simp
    · by_cases h1 : c = 47
      · subst h1; rw [if_neg (by decide), if_pos (by rfl)]; simp
      · have g0 : ¬ ((c.toNat : Int) = 0) := fun h => h0 (by apply UInt8.toNat.inj; simp; omega)
        have g1 : ¬ ((c.toNat : Int) = 47) := fun h => h1 (by apply UInt8.toNat.inj; simp; omega)
        have hw : wrap64 ((i : Int) + 1) = ((i + 1 : Nat) : Int) := by unfold wrap64; omega
        rw [if_neg g0, if_neg g1, hw, ih k (i + 1) (by omega) h13 (by omega)]
        rw [List.contains_cons, List.contains_cons, beq_eq_false_iff_ne.2 (Ne.symm h0), beq_eq_false_iff_ne.2 (Ne.symm h1), Bool.false_or, Bool.false_or]
theorem rright_eq (s : ByteArray) : moatref12_Right.f 20 s = some (Rt.rightB s.data.toList) := by
  have j : ∀ b, moatref12_Right.j0 20 s b = if b = true then some false else moatref12_Right.l0 19 s 0 := fun b => by simp only [moatref12_Right.j0]
  unfold moatref12_Right.f
  simp only [j]
  by_cases h0 : s.toList = []
  · rw [if_pos h0, if_pos trivial, ← Rt.right_nil h0]
  · rw [if_neg h0]
    by_cases h : s.size ≤ 13
    · rw [if_neg (by omega)]
      by_cases h1 : s.toList = [46]
      · rw [if_pos h1, if_pos trivial, ← Rt.right_dot h1]
      · rw [if_neg h1]
        by_cases h2 : s.toList = [46, 46]
        · rw [if_pos (by rw [h2]; rfl), ← Rt.right_dots h2]
        · rw [if_neg (by simpa using h2), ← Rt.right_rest h h0 h1 h2 rfl]
          exact right_loop s s.size 19 0 (by omega) h (by omega)
    · rw [if_pos (by omega), if_pos trivial, ← Rt.right_long h]

theorem fill_loop (d : Nat) : ∀ (k : Nat) (l : List Int), l.length + d = 16 → d < k → moatref01_Fill.l0 k 16 l = some (l ++ List.replicate d 0, 0) := by
  induction d with
  | zero =>
    intro k l hd hk
    obtain ⟨k, rfl⟩ : ∃ m, k = m + 1 := ⟨k - 1, by omega⟩
    simp only [moatref01_Fill.l0]
    rw [if_neg (by omega)]; simp
  | succ d ih =>
    intro k l hd hk
    obtain ⟨k, rfl⟩ : ∃ m, k = m + 1 := ⟨k - 1, by omega⟩
    simp only [moatref01_Fill.l0]
    rw [if_pos (by omega), if_pos (by omega), ih k (l ++ [0]) (by simp; omega) (by omega)]
    simp [List.replicate_succ]
theorem fill_eq (l : List Int) (h : l.length ≤ 16) : moatref01_Fill.f 20 l 16 = some (l ++ List.replicate (16 - l.length) 0, 0) := by
  unfold moatref01_Fill.f
  rw [if_neg (by decide), if_neg (by omega)]
  simp only [moatref01_Fill.j0]
  rw [if_neg (by decide), Option.bind_some, if_pos (by simp; omega), List.nil_append]
  exact fill_loop _ 19 l (by omega) (by omega)
end Go.Proofs.Ytinfjmdcmfpdiaa.Rc

/- moatref12.Lay: every entry. -/
namespace Go.Proofs.Ytinfjmdcmfpdiaa.Rl
open Go.RowKit Go.Proofs.Ytinfjmdcmfpdiaa.Rt Go.Proofs.Ytinfjmdcmfpdiaa.Sp Go.Proofs.Ytinfjmdcmfpdiaa.Rc Go.Proofs.YtinfjmdcmfpdiaaW.PrintWords Go.Proofs.YtinfjmdcmfpdiaaW.PrintWords.Kd Go.Proofs.YtinfjmdcmfpdiaaW.PrintLast Go.Proofs.YtinfjmdcmfpdiaaW.PrintMore
set_option linter.unusedVariables false
set_option linter.unusedSimpArgs false

theorem info_u8 : (Try.prog.info? 5).map (fun i => (i.zero, i.size, i.bytes)) = some (some (.int .u8 0), 1, 1) := by kernel_rfl

set_option maxHeartbeats 2000000 in
set_option maxRecDepth 100000 in
theorem rlay_name (n : ByteArray) (i : Int) (hr : rightB n.data.toList = false) (w : World) :
    Calls Try.prog 12 #[.agg #[.string n, .int .i64 i]] w fun e w' => ∃ v : Value, e = .returned (.tuple #[v, .int .i64 120]) ∧ Kd.R (Kd.int .u8) 5 w' w.heap.size (fun _ => True) v [] ∧ Below w.heap.size w w' := by
  have hR := Lib.hid ((rright_eq n).trans (congrArg some hr))
  clear hr
  go_enter Try.func12, Try.ntmps12
  go_wp2_with fail
  refine (C.moatref12_Right.calls 20 n false _ hR.out).mono ?_
  rintro e w1 ⟨rfl, hb⟩
  replace hb := hb.below
  have hBw := Lib.hid (below_step (below_alloc (Below.refl _ _) _) hb)
  clear hb
  go_wp2_with fail
  go_ret2
  exact ⟨_, rfl, Kd.R_nil _ _ _ _ _, hBw.out⟩

set_option maxHeartbeats 2000000 in
set_option maxRecDepth 100000 in
theorem rlay_arg (n : ByteArray) (i : Int) (hr : rightB n.data.toList = true) (hi : i < 0 ∨ 64 ≤ i) (w : World) :
    Calls Try.prog 12 #[.agg #[.string n, .int .i64 i]] w fun e w' => ∃ v : Value, e = .returned (.tuple #[v, .int .i64 1]) ∧ Kd.R (Kd.int .u8) 5 w' w.heap.size (fun _ => True) v [] ∧ Below w.heap.size w w' := by
  have hR := Lib.hid ((rright_eq n).trans (congrArg some hr))
  clear hr
  go_enter Try.func12, Try.ntmps12
  go_wp2_with fail
  refine (C.moatref12_Right.calls 20 n true _ hR.out).mono ?_
  rintro e w1 ⟨rfl, hb⟩
  replace hb := hb.below
  obtain ⟨hbox, hBw⟩ : w1.heap[w.heap.size]? = some (.cells #[.string n, .int .i64 i] 23 (0, 0)) ∧ Below w.heap.size w w1 := ⟨blk_below (blk_new w _) hb, below_step (below_alloc (Below.refl _ _) _) hb⟩
  have c1 : w1.cell? ⟨w.heap.size, 1, none⟩ = some (.int .i64 i) := (blk_cell hbox 1).trans rfl
  replace hBw := Lib.hid hBw
  clear hb hbox
  by_cases h : i < 0
  · have hl1 : decide (i < 0) = true := decide_eq_true h
    go_wp2_with fail
    go_ret2
    exact ⟨_, rfl, Kd.R_nil _ _ _ _ _, hBw.out⟩
  · have hl1 : decide (i < 0) = false := decide_eq_false h
    have hl2 : decide (i ≥ 64) = true := decide_eq_true (by omega)
    go_wp2_with fail
    go_ret2
    exact ⟨_, rfl, Kd.R_nil _ _ _ _ _, hBw.out⟩

/-- The entry's box stands. -/
structure BoxS (w : World) (n : ByteArray) (i : Int) (xb : Nat) (W : World) : Prop where
  box : W.heap[xb]? = some (.cells #[.string n, .int .i64 i] 23 (0, 0))
  below : Below w.heap.size w W
theorem BoxS.step {w W W' : World} {n : ByteArray} {i : Int} {xb : Nat} (h : BoxS w n i xb W) (hb : Below W.heap.size W W') : BoxS w n i xb W' := ⟨blk_below h.box hb, below_step h.below hb⟩
theorem BoxS.drew {w W : World} {n : ByteArray} {i : Int} {xb : Nat} (h : BoxS w n i xb W) : BoxS w n i xb W.drew := ⟨h.box, below_drew1 h.below⟩
theorem BoxS.cells {w W : World} {n : ByteArray} {i : Int} {xb : Nat} (h : BoxS w n i xb W) : W.cell? ⟨xb, 0, none⟩ = some (.string n) ∧ W.cell? ⟨xb, 1, none⟩ = some (.int .i64 i) :=
  ⟨(blk_cell h.box 0).trans rfl, (blk_cell h.box 1).trans rfl⟩

theorem layL_fill (n : ByteArray) (i : Int) (hn : n.size ≤ 13) (h0 : 0 ≤ i) (h1 : i < 64) :
    ([IntKind.u8.wrap (n.size : Int), La.bitsOf n.data.toList, IntKind.u8.wrap i] ++ bytesOf n) ++ List.replicate (16 - ([IntKind.u8.wrap (n.size : Int), La.bitsOf n.data.toList, IntKind.u8.wrap i] ++ bytesOf n).length) 0 = La.layL n i := by
  rw [La.u8_wrap _ (by omega) (by omega), La.u8_wrap i h0 (by omega)]
  have : 16 - ([(n.size : Int), La.bitsOf n.data.toList, i] ++ bytesOf n).length = 13 - n.size := by
    rw [List.length_append, bytesOf_length]
    simp only [List.length_cons, List.length_nil]
    omega
  rw [this]; rfl

set_option maxHeartbeats 4000000 in
set_option maxRecDepth 100000 in
theorem rlay_ok (n : ByteArray) (i : Int) (hr : rightB n.data.toList = true) (hn13 : n.size ≤ 13) (hi0 : 0 ≤ i) (hi1 : i < 64) (w : World) :
    Calls Try.prog 12 #[.agg #[.string n, .int .i64 i]] w fun e w' => ∃ v : Value, e = .returned (.tuple #[v, .int .i64 0]) ∧ Kd.R (Kd.int .u8) 5 w' w.heap.size (fun _ => True) v (La.layL n i) ∧ Below w.heap.size w w' := by
  have hR := Lib.hid ((rright_eq n).trans (congrArg some hr))
  clear hr
  obtain ⟨bx, bY, hOf, hBits⟩ := rbitsOf n (by omega)
  replace hOf := Lib.hid hOf
  replace hBits := Lib.hid hBits
  have hl1 : decide (i < 0) = false := decide_eq_false (by omega)
  have hl2 : decide (i ≥ 64) = false := decide_eq_false (by omega)
  go_enter Try.func12, Try.ntmps12
  go_wp2_with fail
  refine (C.moatref12_Right.calls 20 n true _ hR.out).mono ?_
  rintro e w1 ⟨rfl, hb⟩
  replace hb := hb.below
  have hS0 : BoxS w n i w.heap.size w1 := ⟨blk_below (blk_new w _) hb, below_step (below_alloc (Below.refl _ _) _) hb⟩
  have c1 : w1.cell? ⟨w.heap.size, 1, none⟩ = some (.int .i64 i) := hS0.cells.2
  clear hb
  replace hS0 := Lib.hid hS0
  go_wp2_with fail
  clear c1
  replace hS0 := hS0.out
  refine start_ (n := 13) (S := BoxS w n i w.heap.size) (ds := []) #[false, false, false, false, false, false, false, false, false, false, false, false, false] (by kernel_rfl) rfl rfl (hS0.drew) (fun hHeld => ?_)
  refine pure_ (i := 0) (N := some 17) (v := ?_) (a' := ?_) #[true, false, false, false, false, false, false, false, false, false, false, false, false] rfl rfl (by kernel_rfl) (fun _ _ _ h => h) (Or.inl ⟨by rfl, ?_⟩) ?_ ?_
  rotate_left
  · intro w'
    go_simp
    with_reducible rfl
  rotate_left
  · simp only [Act.put, List.setIfInBounds_toArray, List.set_cons_zero, List.set_cons_succ, i64_w, i32_w]
    rfl
  refine take_ (i := 1) (N := some 18) (v := ?_) (a' := ?_) #[true, true, false, false, false, false, false, false, false, false, false, false, false] rfl rfl (by kernel_rfl) (fun _ _ _ h => h) (Or.inl ⟨by rfl, ?_⟩) hHeld ?_ ?_
  rotate_left
  · rintro w' hS
    obtain ⟨x0, x1⟩ := hS.cells
    go_simp
    with_reducible rfl
  rotate_left
  · simp only [Act.put, List.setIfInBounds_toArray, List.set_cons_zero, List.set_cons_succ, i64_w, i32_w]
    rfl
  refine pure_ (i := 2) (N := some 19) (v := ?_) (a' := ?_) #[true, true, true, false, false, false, false, false, false, false, false, false, false] rfl rfl (by kernel_rfl) (fun _ _ _ h => h) (Or.inl ⟨by rfl, ?_⟩) ?_ ?_
  rotate_left
  · intro w'
    go_simp
    with_reducible rfl
  rotate_left
  · simp only [Act.put, List.setIfInBounds_toArray, List.set_cons_zero, List.set_cons_succ, i64_w, i32_w]
    rfl
  refine pure_ (i := 3) (N := some 20) (v := ?_) (a' := ?_) #[true, true, true, true, false, false, false, false, false, false, false, false, false] rfl rfl (by kernel_rfl) (fun _ _ _ h => h) (Or.inl ⟨by rfl, ?_⟩) ?_ ?_
  rotate_left
  · intro w'
    go_simp
    with_reducible rfl
  rotate_left
  · simp only [Act.put, List.setIfInBounds_toArray, List.set_cons_zero, List.set_cons_succ, i64_w, i32_w]
    rfl
  refine pure_ (i := 4) (N := some 21) (v := ?_) (a' := ?_) #[true, true, true, true, true, false, false, false, false, false, false, false, false] rfl rfl (by kernel_rfl) (fun _ _ _ h => h) (Or.inl ⟨by rfl, ?_⟩) ?_ ?_
  rotate_left
  · intro w'
    go_simp
    with_reducible rfl
  rotate_left
  · simp only [Act.put, List.setIfInBounds_toArray, List.set_cons_zero, List.set_cons_succ, i64_w, i32_w]
    rfl
  refine take_ (i := 5) (N := some 22) (v := ?_) (a' := ?_) #[true, true, true, true, true, true, false, false, false, false, false, false, false] rfl rfl (by kernel_rfl) (fun _ _ _ h => h) (Or.inl ⟨by rfl, ?_⟩) hHeld ?_ ?_
  rotate_left
  · rintro w' hS
    obtain ⟨x0, x1⟩ := hS.cells
    go_simp
    with_reducible rfl
  rotate_left
  · simp only [Act.put, List.setIfInBounds_toArray, List.set_cons_zero, List.set_cons_succ, i64_w, i32_w]
    rfl
  refine pure_ (i := 8) (N := some 25) (v := ?_) (a' := ?_) #[true, true, true, true, true, true, false, false, true, false, false, false, false] rfl rfl (by kernel_rfl) (fun _ _ _ h => h) (Or.inl ⟨by rfl, ?_⟩) ?_ ?_
  rotate_left
  · intro w'
    go_simp
    with_reducible rfl
  rotate_left
  · simp only [Act.put, List.setIfInBounds_toArray, List.set_cons_zero, List.set_cons_succ, i64_w, i32_w]
    rfl
  refine take_ (i := 9) (N := some 26) (v := ?_) (a' := ?_) #[true, true, true, true, true, true, false, false, true, true, false, false, false] rfl rfl (by kernel_rfl) (fun _ _ _ h => h) (Or.inl ⟨by rfl, ?_⟩) hHeld ?_ ?_
  rotate_left
  · rintro w' hS
    obtain ⟨x0, x1⟩ := hS.cells
    go_simp
    with_reducible rfl
  rotate_left
  · simp only [Act.put, List.setIfInBounds_toArray, List.set_cons_zero, List.set_cons_succ, i64_w, i32_w]
    rfl
  refine pure_ (i := 10) (N := some 27) (v := ?_) (a' := ?_) #[true, true, true, true, true, true, false, false, true, true, true, false, false] rfl rfl (by kernel_rfl) (fun _ _ _ h => h) (Or.inl ⟨by rfl, ?_⟩) ?_ ?_
  rotate_left
  · intro w'
    go_simp
    with_reducible rfl
  rotate_left
  · simp only [Act.put, List.setIfInBounds_toArray, List.set_cons_zero, List.set_cons_succ, i64_w, i32_w]
    rfl
  refine one_ (i := 6) (N := some 23) #[true, true, true, true, true, true, true, false, true, true, true, false, false] rfl rfl (by kernel_rfl) (by decide) (fun K hK => ?_)
  refine goes_ Try.func31 (by kernel_rfl) rfl #[.string n] (by rfl) rfl rfl (by (try simp only [List.map_toArray, List.map_cons, List.map_nil]); first | done | rfl) ?_
  with_reducible refine (C.moatref02_Of.calls 20001 n bx bY _ hOf.out).mono ?_
  rintro e w4 ⟨rfl, hb4⟩
  refine ⟨_, rfl, ?_⟩
  refine hK.out _ _ (hHeld.step hb4) (fun hHeld => ?_)
  clear hK K
  refine norm_ (a' := ?_) ?_ ?_
  rotate_left
  · show Act.put _ (some 23) _ = _
    simp only [Act.put, List.setIfInBounds_toArray, List.set_cons_zero, List.set_cons_succ, i64_w, i32_w]
    rfl
  refine one_ (i := 7) (N := some 24) #[true, true, true, true, true, true, true, true, true, true, true, false, false] rfl rfl (by kernel_rfl) (by decide) (fun K hK => ?_)
  refine goes_ Try.func30 (by kernel_rfl) rfl #[.agg #[.int .i64 bx, .int .i64 bY]] (by rfl) rfl rfl (by (try simp only [List.map_toArray, List.map_cons, List.map_nil]); first | done | rfl) ?_
  with_reducible refine (C.moatref02_Bits.calls bx bY _ _ hBits.out).mono ?_
  rintro e w5 ⟨rfl, hb5⟩
  refine ⟨_, rfl, ?_⟩
  refine hK.out _ _ (hHeld.step hb5) (fun hHeld => ?_)
  clear hK K
  refine norm_ (a' := ?_) ?_ ?_
  rotate_left
  · show Act.put _ (some 24) _ = _
    simp only [Act.put, List.setIfInBounds_toArray, List.set_cons_zero, List.set_cons_succ, i64_w, i32_w]
    rfl
  refine one_ (i := 11) (N := some 28) #[true, true, true, true, true, true, true, true, true, true, true, true, false] rfl rfl (by kernel_rfl) (by decide) (fun K hK => ?_)
  refine Kd.R_lit_step (Kd.int .u8) (w0 := w) w.heap.size 5 (by rfl) (N := 28) rfl (xs := [IntKind.u8.wrap (n.size : Int), La.bitsOf n.data.toList, IntKind.u8.wrap i]) (inner := [.int .u8 (IntKind.u8.wrap (n.size : Int)), .int .u8 (La.bitsOf n.data.toList), .int .u8 (IntKind.u8.wrap i)]) (ok := fun _ => True) (okp := fun _ => True) ?_ (reps_scalar _) (fun _ hk => hk) trivial hHeld.below hHeld.below.size (by simp) ?_
  · go_simp
    try rfl
  intro v1 w6 ho6 hb6 hg6 hn6
  have hS6 := BoxS.mk (blk_grown hHeld.box hg6 (by simp)) hb6
  replace ho6 := Lib.hid ho6
  clear hg6 hn6
  refine hK.out _ _ hS6 (fun hHeld => ?_)
  clear hK K hb6 hS6
  refine norm_ (a' := ?_) ?_ ?_
  rotate_left
  · show Act.put _ (some 28) _ = _
    simp only [Act.put, List.setIfInBounds_toArray, List.set_cons_zero, List.set_cons_succ, i64_w, i32_w]
    rfl
  refine pure_ (i := 12) (N := some 4) (v := ?_) (a' := ?_) #[true, true, true, true, true, true, true, true, true, true, true, true, true] rfl rfl (by kernel_rfl) (fun _ _ _ h => h) (Or.inl ⟨by rfl, ?_⟩) ?_ ?_
  rotate_left
  · intro w'
    go_simp
    with_reducible rfl
  rotate_left
  · simp only [Act.put, List.setIfInBounds_toArray, List.set_cons_zero, List.set_cons_succ, i64_w, i32_w]
    rfl
  refine done_ (by kernel_rfl) ?_
  have c0 : w6.cell? ⟨w.heap.size, 0, none⟩ = some (.string n) := hHeld.cells.1
  have hB6 := hHeld.below
  replace hB6 := Lib.hid hB6
  clear hHeld hS0
  have kb := fun W => print_bytes (P := Try.prog) 9 24 5 Try.underlying9 Try.underlying24 Try.underlying5 n W
  obtain ⟨ys, hys⟩ : ∃ ys, ys = [IntKind.u8.wrap (n.size : Int), La.bitsOf n.data.toList, IntKind.u8.wrap i] ++ bytesOf n := ⟨_, rfl⟩
  replace hys := Lib.hid hys
  go_wp2_with (at_builtin; refine Kd.R_append_row (Value.int .u8) (0 : Int) (w0 := w) w.heap.size rfl (.tmp 29) (.tmp 32) 24 5 (.int .u8 0) 1 rfl Try.underlying24 info_u8 rfl (by decide) v1 [IntKind.u8.wrap (n.size : Int), La.bitsOf n.data.toList, IntKind.u8.wrap i] (bytesOf n) _ _ _ (fun _ => True) rfl rfl (fun _ _ => trivial) (Kd.R_below ho6.out (bytes_below (Below.refl _ _) (Nat.le_refl _) _ _)) (Kd.C_of_reads (d := (0 : Int)) (bytes_reads _ _ n (by omega))) (bytes_below hB6.out hB6.out.size _ _) ?hbase ?hl ?_; (case hbase => (rw [Lib.bytesWorld_size]; have := hB6.out.size; omega)); (case hl => (simp; omega)); intro v2 w7 ho7 hb7 hg7 hn7; rw [← hys.out] at ho7; replace ho7 := Lib.hid ho7; replace hb7 := Lib.hid hb7; clear hg7 hn7 kb; obtain ⟨A2, k2, hv2, hk2, hc2⟩ := Kd.R_reads ho7.out; replace hc2 := Lib.hid hc2; subst hv2)
  have hlen : ys.length ≤ 16 := by rw [hys.out, List.length_append, bytesOf_length]; simp only [List.length_cons, List.length_nil]; omega
  refine (C.moatref01_Fill.calls 20 A2 k2 ys 16 _ _ _ hc2.out hk2 (fill_eq ys hlen)).mono ?_
  rintro e w8 ⟨v8, rfl, ho8, hb8⟩
  have ho9 := Lib.hid (Kd.R_lower ho8 hb7.out.size)
  have hb9 := Lib.hid (below_step hb7.out hb8)
  clear ho8 hb8
  go_wp2_with fail
  go_ret2
  refine ⟨v8, rfl, ?_, hb9.out⟩
  have h := ho9.out
  rw [hys.out, layL_fill n i hn13 hi0 hi1] at h
  exact h

theorem rlay_any (n : ByteArray) (i : Int) (w : World) :
    Calls Try.prog 12 #[.agg #[.string n, .int .i64 i]] w fun e w' => ∃ v : Value, e = .returned (.tuple #[v, .int .i64 (La.layA n i).2]) ∧ Kd.R (Kd.int .u8) 5 w' w.heap.size (fun _ => True) v (La.layA n i).1 ∧ Below w.heap.size w w' := by
  unfold La.layA
  by_cases hr : rightB n.data.toList = true
  · rw [if_pos hr]
    by_cases hi : 0 ≤ i ∧ i < 64
    · rw [if_pos hi]
      have hn : n.size ≤ 13 := by
        have h := hr
        simp only [rightB, Bool.and_eq_true, decide_eq_true_eq] at h
        have := h.1.1.1.2
        rw [← Lib.size_eq] at this
        exact this
      exact rlay_ok n i hr hn hi.1 hi.2 w
    · rw [if_neg hi]; exact rlay_arg n i hr (by omega) w
  · rw [if_neg hr]; exact rlay_name n i (Bool.eq_false_iff.2 hr) w
end Go.Proofs.Ytinfjmdcmfpdiaa.Rl
namespace Go.Proofs.Ytinfjmdcmfpdiaa.P
open Go.RowKit Go.Proofs.YtinfjmdcmfpdiaaW.PrintWords
def moatref12_Lay.f (a0_0 : ByteArray) (a0_1 : Int) : Option (List Int × Int) := some (La.layA a0_0 a0_1)
theorem moatref12_Lay.calls (a0_0 : ByteArray) (a0_1 : Int) (r1 : List Int) (r2 : Int) (w : World) (h : moatref12_Lay.f a0_0 a0_1 = some (r1, r2)) :
    Calls Try.prog 12 #[.agg #[.string a0_0, .int .i64 a0_1]] w fun e w' => ∃ v0_ : Value, e = .returned (.tuple #[v0_, .int .i64 r2]) ∧ Kd.R (Kd.int .u8) 5 w' w.heap.size (fun _ => True) v0_ r1 ∧ Below w.heap.size w w' := by
  injection h with h
  have := Rl.rlay_any a0_0 a0_1 w
  rw [h] at this
  exact this
end Go.Proofs.Ytinfjmdcmfpdiaa.P

/- Contracts of functions that the statements reach: each call's answer as a plain Lean function. Printed by a program of this session (over the kit's print) out of the translation; Lean checks it. -/
namespace Go.Proofs.Ytinfjmdcmfpdiaa.D
open Go.RowKit Go.Proofs.YtinfjmdcmfpdiaaW.PrintWords Go.Proofs.YtinfjmdcmfpdiaaW.PrintLast Go.Proofs.YtinfjmdcmfpdiaaW.PrintMore
set_option linter.unusedVariables false
set_option linter.unusedSimpArgs false



def errW : Option Int → Value
  | none => .nilIface
  | some c => .iface 0 (.int .i64 c)
theorem errW_none : errW none = .nilIface := rfl
theorem errW_some (c : Int) : errW (some c) = .iface 0 (.int .i64 c) := rfl

theorem info5 : (Try.prog.info? 5).map (fun i => (i.zero, i.size, i.bytes)) = some (some (.int .u8 0), 1, 1) := by kernel_rfl
theorem info23 : (Try.prog.info? 23).map (fun i => (i.zero, i.size, i.bytes)) = some (some (.agg #[(.string ⟨#[]⟩), (.int .i64 0)]), 2, 24) := by kernel_rfl
theorem info67 : (Try.prog.info? 67).map (fun i => (i.zero, i.size, i.bytes)) = some (some (.agg #[(.string ⟨#[]⟩), (.int .i64 0), (.bool false)]), 3, 32) := by kernel_rfl
-- the values' own types
/-! #### struct type 23 -/
structure S23 where
  f0 : ByteArray
  f1 : Int
def z23 : S23 := ⟨(⟨#[]⟩ : ByteArray), (0 : Int)⟩
def k23 : Kd S23 := Kd.iso (Kd.pair Kd.string (Kd.int .i64)) (fun x : S23 => (x.f0, x.f1))
theorem k23_open {w : World} {x : S23} {cs : List Value} (h : k23.K w x cs) : cs = [.string x.f0, .int .i64 x.f1] := by
  obtain ⟨_, _, rfl, rfl, rfl⟩ := h
  exact rfl
theorem k23_openM {w : World} {base : Nat} {ok : Nat → Prop} {x : S23} {cs : List Value} (h : k23.M w base ok x cs) : cs = [.string x.f0, .int .i64 x.f1] := by
  obtain ⟨_, _, rfl, rfl, rfl⟩ := h
  exact rfl
theorem k23_mk (w : World) (x : S23)  : k23.K w x [.string x.f0, .int .i64 x.f1] := ⟨[.string x.f0], [.int .i64 x.f1], rfl, rfl, rfl⟩
theorem k23_mkM (w : World) (base : Nat) (ok : Nat → Prop) (x : S23)  : k23.M w base ok x [.string x.f0, .int .i64 x.f1] := ⟨[.string x.f0], [.int .i64 x.f1], rfl, rfl, rfl⟩
def rd_T23 (xs : List S23) (i : Int) : S23 := xs.getD i.toNat z23
theorem at_T23 {w : World} {A : Option Addr} {n : Nat} {xs : List S23} (h : Kd.C k23 w A n xs) (i : Int) (h0 : 0 ≤ i) (h1 : i < n) : ∃ ad , A = some ad ∧ w.cell? (ad.add (i.toNat * 2)) = some (.string (rd_T23 xs i).f0) ∧ w.cell? ⟨(ad.add (i.toNat * 2)).block, (ad.add (i.toNat * 2)).off + 1, none⟩ = some (.int .i64 (rd_T23 xs i).f1) := by
  obtain ⟨ad, c, e, _, hK, hc0⟩ := Kd.C_get h z23 i h0 h1
  have hc : ∀ j u, c[j]? = some u → w.cell? (ad.add (i.toNat * 2 + j)) = some u := hc0
  obtain rfl := k23_open hK
  exact ⟨ad, e, hc 0 _ rfl, by rw [← add_field _ _ 1 (by omega)]; exact hc 1 _ rfl⟩

/-! #### struct type 67 -/
structure S67 where
  f0 : S23
  f1 : Bool
def z67 : S67 := ⟨z23, false⟩
def k67 : Kd S67 := Kd.iso (Kd.pair k23 Kd.bool) (fun x : S67 => (x.f0, x.f1))
theorem k67_open {w : World} {x : S67} {cs : List Value} (h : k67.K w x cs) : cs = [.string x.f0.f0, .int .i64 x.f0.f1, .bool x.f1] := by
  obtain ⟨_, _, rfl, s0, rfl⟩ := h
  obtain rfl := k23_open s0
  exact rfl
theorem k67_openM {w : World} {base : Nat} {ok : Nat → Prop} {x : S67} {cs : List Value} (h : k67.M w base ok x cs) : cs = [.string x.f0.f0, .int .i64 x.f0.f1, .bool x.f1] := by
  obtain ⟨_, _, rfl, s0, rfl⟩ := h
  obtain rfl := k23_openM s0
  exact rfl
theorem k67_mk (w : World) (x : S67)  : k67.K w x [.string x.f0.f0, .int .i64 x.f0.f1, .bool x.f1] := ⟨[.string x.f0.f0, .int .i64 x.f0.f1], [.bool x.f1], rfl, (k23_mk w x.f0 ), rfl⟩
theorem k67_mkM (w : World) (base : Nat) (ok : Nat → Prop) (x : S67)  : k67.M w base ok x [.string x.f0.f0, .int .i64 x.f0.f1, .bool x.f1] := ⟨[.string x.f0.f0, .int .i64 x.f0.f1], [.bool x.f1], rfl, (k23_mkM w base ok x.f0 ), rfl⟩
def rd_T67 (xs : List S67) (i : Int) : S67 := xs.getD i.toNat z67
theorem at_T67 {w : World} {A : Option Addr} {n : Nat} {xs : List S67} (h : Kd.C k67 w A n xs) (i : Int) (h0 : 0 ≤ i) (h1 : i < n) : ∃ ad , A = some ad ∧ w.cell? (ad.add (i.toNat * 3)) = some (.string (rd_T67 xs i).f0.f0) ∧ w.cell? ⟨(ad.add (i.toNat * 3)).block, (ad.add (i.toNat * 3)).off + 1, none⟩ = some (.int .i64 (rd_T67 xs i).f0.f1) ∧ w.cell? ⟨(ad.add (i.toNat * 3)).block, (ad.add (i.toNat * 3)).off + 2, none⟩ = some (.bool (rd_T67 xs i).f1) := by
  obtain ⟨ad, c, e, _, hK, hc0⟩ := Kd.C_get h z67 i h0 h1
  have hc : ∀ j u, c[j]? = some u → w.cell? (ad.add (i.toNat * 3 + j)) = some u := hc0
  obtain rfl := k67_open hK
  exact ⟨ad, e, hc 0 _ rfl, by rw [← add_field _ _ 1 (by omega)]; exact hc 1 _ rfl, by rw [← add_field _ _ 2 (by omega)]; exact hc 2 _ rfl⟩

end Go.Proofs.Ytinfjmdcmfpdiaa.D

/- Contracts of functions that the statements reach: each call's answer as a plain Lean function. Printed by a program of this session (over the kit's print) out of the translation; Lean checks it. -/
namespace Go.Proofs.Ytinfjmdcmfpdiaa.D
open Go.Proofs.Ytinfjmdcmfpdiaa.P Go.RowKit Go.Proofs.YtinfjmdcmfpdiaaW.PrintWords Go.Proofs.YtinfjmdcmfpdiaaW.PrintLast Go.Proofs.YtinfjmdcmfpdiaaW.PrintMore
set_option linter.unusedVariables false
set_option linter.unusedSimpArgs false

theorem eqA23 (d : Nat) (w : World) (x0 y0 : ByteArray) (x1 y1 : Int) :
    (Op.equalIn (d + 2) 23 (.agg #[.string x0, .int .i64 x1]) (.agg #[.string y0, .int .i64 y1])).run Try.prog w = .ok (x0.toList == y0.toList && (x1 == y1)) w := by
  refine eqA_of Try.underlying23 (by kernel_rfl) ?_
  refine eqf_cons (by rfl) (by go_simp; rfl) (by go_simp; rfl) (by go_simp) ?_
  exact eqf_last (by rfl) (by go_simp; rfl) (by go_simp; rfl) (by go_simp)
end Go.Proofs.Ytinfjmdcmfpdiaa.D
