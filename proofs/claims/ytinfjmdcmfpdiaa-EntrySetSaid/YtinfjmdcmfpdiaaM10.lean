/- Walks and plain laws on which the claim stands, several texts joined. -/
import Derived.Test.YtinfjmdcmfpdiaaM5
import Derived.Test.YtinfjmdcmfpdiaaM6
import Derived.Test.YtinfjmdcmfpdiaaM7
import Derived.Test.YtinfjmdcmfpdiaaM8
import Derived.Test.YtinfjmdcmfpdiaaM9
import Derived.Test.YtinfjmdcmfpdiaaM2
import Derived.Test.YtinfjmdcmfpdiaaM1
import Derived.Test.YtinfjmdcmfpdiaaM0
import Derived.Maps.OwnOps
import Derived.Maps.OwnSet
import Derived.Maps.Views
import Derived.Lib.Hide
import Derived.Test.YtinfjmdcmfpdiaaWGuard
import Derived.LoopTactic
import Derived.ScopeJumps
import Derived.WalkMore

/- Contracts of functions that the statements reach: each call's answer as a plain Lean function. Printed by a program of this session (over the kit's print) out of the translation; Lean checks it. -/
namespace Go.Proofs.Ytinfjmdcmfpdiaa.D
open Go.Proofs.Ytinfjmdcmfpdiaa.P Go.RowKit Go.Proofs.YtinfjmdcmfpdiaaW.PrintWords Go.Proofs.YtinfjmdcmfpdiaaW.PrintLast Go.Proofs.YtinfjmdcmfpdiaaW.PrintMore
set_option linter.unusedVariables false
set_option linter.unusedSimpArgs false

attribute [local go_sem high] eqA23
/-! ### moatref12_Same: function 27 -/
def moatref12_Same.l0 : Nat → List (S23) → List (S23) → Int → Option (Bool)
  | 0, _, _, _ => none
  | k + 1, x0, x1, x5 => if x5 < (x0.length : Int) then (if 0 ≤ x5 then (if x5 < (x1.length : Int) then (if (!((((rd_T23 x0 x5).f0).toList) == (((rd_T23 x1 x5).f0).toList)) || (!(((rd_T23 x0 x5).f1) == ((rd_T23 x1 x5).f1)))) = true then (some false) else (moatref12_Same.l0 k x0 x1 (wrap64 (x5 + 1)))) else (none)) else (none)) else (some true)
def moatref12_Same.f (k : Nat) (l0 : List (S23)) (l1 : List (S23)) : Option (Bool) := if (l0.length : Int) = (l1.length : Int) then (moatref12_Same.l0 k l0 l1 0) else (some false)
theorem moatref12_Same.mono_l : ∀ k, (∀ y0 y1 y2, LeO (moatref12_Same.l0 k y0 y1 y2) (moatref12_Same.l0 (k + 1) y0 y1 y2))
  | 0 => fun _ _ _ r h => by simp [moatref12_Same.l0] at h
  | k + 1 => by
    have ih0 := moatref12_Same.mono_l k
    · intro y0 y1 y2
      unfold moatref12_Same.l0
      repeat' first
      | (with_reducible exact ih0 _ _ _)
      | (with_reducible exact LeO.refl _)
      | (with_reducible exact LeO.none _)
      | (with_reducible refine LeO.ite ?_ ?_)
      | (with_reducible refine LeO.bind ?_ (fun _ => ?_))
      | exact ih0 _ _ _
      | exact LeO.none _
      | refine LeO.ite ?_ ?_
      | refine LeO.bind ?_ (fun _ => ?_)
theorem moatref12_Same.mono : ∀ a0 a1 k, LeO (moatref12_Same.f k a0 a1) (moatref12_Same.f (k + 1) a0 a1) := by
  intro a0 a1 k
  have ih0 := moatref12_Same.mono_l k
  unfold moatref12_Same.f
  repeat' first
      | (with_reducible exact ih0 _ _ _)
      | (with_reducible exact LeO.refl _)
      | (with_reducible exact LeO.none _)
      | (with_reducible refine LeO.ite ?_ ?_)
      | (with_reducible refine LeO.bind ?_ (fun _ => ?_))
      | exact ih0 _ _ _
      | exact LeO.none _
      | refine LeO.ite ?_ ?_
      | refine LeO.bind ?_ (fun _ => ?_)
set_option maxHeartbeats 8000000 in
set_option maxRecDepth 100000 in
theorem moatref12_Same.calls (k : Nat) (A0 : Option Addr) (c0 : Nat) (l0 : List (S23)) (A1 : Option Addr) (c1 : Nat) (l1 : List (S23)) (r : Bool) (w : World) (hr0 : Kd.C k23 w A0 l0.length l0) (hc0 : l0.length ≤ c0) (hr1 : Kd.C k23 w A1 l1.length l1) (hc1 : l1.length ≤ c1) (h : moatref12_Same.f k l0 l1 = some r) :
    Calls Try.prog 27 #[.slice A0 l0.length c0, .slice A1 l1.length c1] w fun e w' => e = .returned (.bool r) ∧ Drawn0 w w' := by
  have hu23 := Try.underlying23
  have HR0 := Aside0.mk hr0
  have HC0 := Aside0.mk hc0
  clear hr0 hc0
  have HR1 := Aside0.mk hr1
  have HC1 := Aside0.mk hc1
  clear hr1 hc1
  have H : (if (l0.length : Int) = (l1.length : Int) then (moatref12_Same.l0 k l0 l1 0) else (some false)) = some r := h
  clear h
  by_cases c3 : (l0.length : Int) = (l1.length : Int)
  · rw [if_pos c3] at H
    have c3b0 : ((l0.length : Int) == (l1.length : Int)) = true := beq_iff_eq.mpr c3
    have c3b1 : ((l0.length : Int) != (l1.length : Int)) = false := bne_eq_false_iff_eq.mpr c3
    have c3b2 : (l0.length == l1.length) = true := by first | simpa using c3 | (simp at c3 ⊢; omega)
    clear c3
    have H' := Aside0.mk H
    clear H
    go_enter Try.func27, Try.ntmps27
    go_wp2
    repeat (go_quiet (fail); try go_wp2)
    go_loopg [5] k (fun kq v5 w' => ∃ (x5_1 : Int), v5 = .int .i64 x5_1 ∧ Aside0 (moatref12_Same.l0 kq l0 l1 x5_1 = some r) ∧ Aside0 (kq ≤ k) ∧ Drawn0 w w')
    case atStart => exact ⟨(0), (by first | rfl | (simp; done) | (simp [*]; done)), H', ⟨Nat.le_refl _⟩, by repeat (first | exact Drawn0.refl _ | apply Drawn0.step)⟩
    case round =>
      clear H'
      try clear c1
      try clear c2
      try clear p2
      try clear c3
      try clear c3b0
      try clear c3b1
      try clear c3b2
      obtain ⟨x5_1, rfl, HA, HK1, ⟨m1, rfl⟩⟩ := hrel
      cases gk with
      | zero => exact absurd HA.out (by simp [moatref12_Same.l0])
      | succ k1 =>
        have H := HA.out
        clear HA
        simp only [moatref12_Same.l0] at H
        by_cases c4 : x5_1 < (l0.length : Int)
        · rw [if_pos c4] at H
          have c4b0 : decide (x5_1 < (l0.length : Int)) = true := decide_eq_true c4
          clear c4
          by_cases c5 : 0 ≤ x5_1
          · rw [if_pos c5] at H
            have c5b0 : decide (0 ≤ x5_1) = true := decide_eq_true c5
            clear c5
            by_cases c6 : x5_1 < (l1.length : Int)
            · rw [if_pos c6] at H
              have c6b0 : decide (x5_1 < (l1.length : Int)) = true := decide_eq_true c6
              clear c6
              by_cases c7 : (!((((rd_T23 l0 x5_1).f0).toList) == (((rd_T23 l1 x5_1).f0).toList)) || (!(((rd_T23 l0 x5_1).f1) == ((rd_T23 l1 x5_1).f1)))) = true
              · rw [if_pos c7] at H
                have c7b0 : (!((((rd_T23 l0 x5_1).f0).toList) == (((rd_T23 l1 x5_1).f0).toList)) || (!(((rd_T23 l0 x5_1).f1) == ((rd_T23 l1 x5_1).f1)))) = true := c7
                clear c7
                obtain rfl := Option.some.inj H
                have p205 : 0 ≤ (x5_1 : Int) := of_decide_eq_true (by first | (with_reducible assumption) | assumption)
                have q205 : x5_1 < (l0.length : Int) := of_decide_eq_true (by first | (with_reducible assumption) | assumption)
                obtain ⟨ad205, e205, hx205_0, hx205_1⟩ := at_T23 HR0.out x5_1 p205 q205
                cases e205
                replace p205 := eq_true p205
                replace q205 := eq_true q205
                have p206 : 0 ≤ (x5_1 : Int) := of_decide_eq_true (by first | (with_reducible assumption) | assumption)
                have q206 : x5_1 < (l1.length : Int) := of_decide_eq_true (by first | (with_reducible assumption) | assumption)
                obtain ⟨ad206, e206, hx206_0, hx206_1⟩ := at_T23 HR1.out x5_1 p206 q206
                cases e206
                replace p206 := eq_true p206
                replace q206 := eq_true q206
                go_wp2
                repeat (go_quiet (fail); try go_wp2)
                go_ret
                exact ⟨by first | rfl | (simp; done) | (simp [*]; done), by repeat (first | exact Drawn0.refl _ | apply Drawn0.step)⟩
              · rw [if_neg c7] at H
                have c7b0 : (!((((rd_T23 l0 x5_1).f0).toList) == (((rd_T23 l1 x5_1).f0).toList)) || (!(((rd_T23 l0 x5_1).f1) == ((rd_T23 l1 x5_1).f1)))) = false := by simpa using c7
                clear c7
                have H' := Aside0.mk H
                clear H
                have p205 : 0 ≤ (x5_1 : Int) := of_decide_eq_true (by first | (with_reducible assumption) | assumption)
                have q205 : x5_1 < (l0.length : Int) := of_decide_eq_true (by first | (with_reducible assumption) | assumption)
                obtain ⟨ad205, e205, hx205_0, hx205_1⟩ := at_T23 HR0.out x5_1 p205 q205
                cases e205
                replace p205 := eq_true p205
                replace q205 := eq_true q205
                have p206 : 0 ≤ (x5_1 : Int) := of_decide_eq_true (by first | (with_reducible assumption) | assumption)
                have q206 : x5_1 < (l1.length : Int) := of_decide_eq_true (by first | (with_reducible assumption) | assumption)
                obtain ⟨ad206, e206, hx206_0, hx206_1⟩ := at_T23 HR1.out x5_1 p206 q206
                cases e206
                replace p206 := eq_true p206
                replace q206 := eq_true q206
                go_wp2
                repeat (go_quiet (fail); try go_wp2)
                go_roundg k1
                case measure => have := HK1.out; omega
                case rel => exact ⟨(wrap64 (x5_1 + 1)), (by first | rfl | (simp; done) | (simp [*]; done)), H', ⟨by have := HK1.out; omega⟩, by repeat (first | exact Drawn0.refl _ | apply Drawn0.step)⟩
            · rw [if_neg c6] at H
              exact absurd H (by simp)
          · rw [if_neg c5] at H
            exact absurd H (by simp)
        · rw [if_neg c4] at H
          have c4b0 : decide (x5_1 < (l0.length : Int)) = false := decide_eq_false c4
          clear c4
          obtain rfl := Option.some.inj H
          go_wp2
          repeat (go_quiet (fail); try go_wp2)
          go_ret
          exact ⟨by first | rfl | (simp; done) | (simp [*]; done), by repeat (first | exact Drawn0.refl _ | apply Drawn0.step)⟩
  · rw [if_neg c3] at H
    have c3b0 : ((l0.length : Int) == (l1.length : Int)) = false := beq_eq_false_iff_ne.mpr c3
    have c3b1 : ((l0.length : Int) != (l1.length : Int)) = true := bne_iff_ne.mpr c3
    have c3b2 : (l0.length == l1.length) = false := by first | simpa using c3 | (simp at c3 ⊢; omega)
    obtain rfl := Option.some.inj H
    go_enter Try.func27, Try.ntmps27
    go_wp2
    repeat (go_quiet (fail); try go_wp2)
    go_ret
    exact ⟨by first | rfl | (simp; done) | (simp [*]; done), by repeat (first | exact Drawn0.refl _ | apply Drawn0.step)⟩

end Go.Proofs.Ytinfjmdcmfpdiaa.D

/- Contracts of functions that the statements reach: each call's answer as a plain Lean function. Printed by a program of this session (over the kit's print) out of the translation; Lean checks it. -/
namespace Go.Proofs.Ytinfjmdcmfpdiaa.D
open Go.RowKit Go.Proofs.YtinfjmdcmfpdiaaW.PrintWords Go.Proofs.YtinfjmdcmfpdiaaW.PrintLast Go.Proofs.YtinfjmdcmfpdiaaW.PrintMore
set_option linter.unusedVariables false
set_option linter.unusedSimpArgs false

end Go.Proofs.Ytinfjmdcmfpdiaa.D

/- A directory's bytes as a list of slots: the plain model of entry, and what entry.Take answers in it. No walk. -/
namespace Go.Proofs.Ytinfjmdcmfpdiaa.Md
open Go.RowKit Go.Proofs.Ytinfjmdcmfpdiaa.Rt Go.Proofs.YtinfjmdcmfpdiaaW.PrintWords Go.Proofs.YtinfjmdcmfpdiaaW.PrintLast Go.Proofs.YtinfjmdcmfpdiaaW.PrintMore

/-- Bytes: numbers from 0 to 255. -/
def Bytes (l : List Int) : Prop := ∀ x ∈ l, 0 ≤ x ∧ x ≤ 255
theorem Bytes.nil : Bytes [] := fun x hx => by cases hx
theorem Bytes.append {a b : List Int} (ha : Bytes a) (hb : Bytes b) : Bytes (a ++ b) := fun x hx => (List.mem_append.1 hx).elim (ha x) (hb x)
theorem Bytes.drop {a : List Int} (ha : Bytes a) (n : Nat) : Bytes (a.drop n) := fun x hx => ha x (List.mem_of_mem_drop hx)
theorem Bytes.take {a : List Int} (ha : Bytes a) (n : Nat) : Bytes (a.take n) := fun x hx => ha x (List.mem_of_mem_take hx)
theorem Bytes.zeros (n : Nat) : Bytes (List.replicate n 0) := fun x hx => by rw [List.eq_of_mem_replicate hx]; omega
theorem Bytes.rd {a : List Int} (ha : Bytes a) (i : Int) : 0 ≤ rd a i ∧ rd a i ≤ 255 := by
  show 0 ≤ a.getD i.toNat 0 ∧ a.getD i.toNat 0 ≤ 255
  rw [List.getD_eq_getElem?_getD]
  cases h : a[i.toNat]? with
  | none => simp
  | some v => exact ha v (List.mem_of_getElem? h)
theorem Bytes.of (s : ByteArray) : Bytes (s.data.toList.map fun b => (b.toNat : Int)) := by
  intro x hx
  obtain ⟨b, _, rfl⟩ := List.mem_map.1 hx
  have := b.toNat_lt
  omega

theorem str_data (a : List Int) : (strOfNums a).data.toList = a.map fun n => UInt8.ofNat n.toNat := rfl
theorem ba_ext {a b : ByteArray} (h : a.data.toList = b.data.toList) : a = b := by
  cases a; cases b
  simp only at h
  rw [Array.toList_inj] at h
  rw [h]
theorem map_back {a : List Int} (ha : Bytes a) : (a.map fun n => UInt8.ofNat n.toNat).map (fun b => (b.toNat : Int)) = a := by
  rw [List.map_map]
  conv => rhs; rw [← List.map_id a]
  apply List.map_congr_left
  intro x hx
  have := ha x hx
  show ((UInt8.ofNat x.toNat).toNat : Int) = x
  rw [UInt8.toNat_ofNat']
  omega
theorem str_back {a : List Int} (ha : Bytes a) : (strOfNums a).data.toList.map (fun b => (b.toNat : Int)) = a := by rw [str_data, map_back ha]
theorem str_inj {a b : List Int} (ha : Bytes a) (hb : Bytes b) : (strOfNums a).toList = (strOfNums b).toList ↔ a = b := by
  rw [Lib.toList_data, Lib.toList_data]
  constructor
  · intro h
    rw [← str_back ha, ← str_back hb, h]
  · intro h; rw [h]
theorem str_of (s : ByteArray) : strOfNums (s.data.toList.map fun b => (b.toNat : Int)) = s := by
  apply ba_ext
  rw [str_data, List.map_map]
  conv => rhs; rw [← List.map_id s.data.toList]
  apply List.map_congr_left
  intro b _
  show UInt8.ofNat ((b.toNat : Int).toNat) = b
  simp

theorem bitsOf_range (l : List UInt8) : 0 ≤ La.bitsOf l ∧ La.bitsOf l ≤ 255 := by unfold La.bitsOf; omega
theorem layL_bytes (n : ByteArray) (i : Int) (hn : n.size ≤ 13) (h0 : 0 ≤ i) (h1 : i < 64) : Bytes (La.layL n i) := by
  unfold La.layL
  refine Bytes.append (Bytes.append ?_ (Bytes.of n)) (Bytes.zeros _)
  intro x hx
  have := bitsOf_range n.data.toList
  simp only [List.mem_cons, List.not_mem_nil, or_false] at hx
  rcases hx with rfl | rfl | rfl <;> omega
theorem right_size {n : ByteArray} (hr : rightB n.data.toList = true) : 1 ≤ n.size ∧ n.size ≤ 13 := by
  simp only [rightB, Bool.and_eq_true, decide_eq_true_eq] at hr
  have h1 := hr.1.1.1.2
  have h2 := hr.1.1.1.1
  rw [Lib.size_eq]
  refine ⟨?_, h1⟩
  cases hl : n.data.toList with
  | nil => rw [hl] at h2; simp at h2
  | cons a b => simp

/-- Sixteen zeros. -/
def zeros : List Int := List.replicate 16 0
/-- The name in an entry's bytes. -/
def nameOf (b : List Int) : ByteArray := strOfNums ((b.take (3 + rd b 0).toNat).drop 3)
/-- An entry's bytes: none: they are no entry; some none: free. -/
def takeO (b : List Int) : Option (Option (ByteArray × Int)) :=
  if b = zeros then some none
  else if b.length = 16 ∧ rd b 0 ≤ 13 ∧ La.layA (nameOf b) (rd b 2) = (b, 0) then some (some (nameOf b, rd b 2)) else none
def takeA (b : List Int) : ByteArray × Int × Bool × Int :=
  match takeO b with
  | none => (⟨#[]⟩, 0, false, 121)
  | some none => (⟨#[]⟩, 0, false, 0)
  | some (some (n, i)) => (n, i, true, 0)

theorem w_small {x : Int} (h0 : 0 ≤ x) (h1 : x ≤ 1000) : wrap64 x = x := by unfold wrap64; omega
theorem layA_ok {n : ByteArray} {i : Int} {b : List Int} (h : La.layA n i = (b, 0)) : rightB n.data.toList = true ∧ 0 ≤ i ∧ i < 64 ∧ b = La.layL n i := by
  unfold La.layA at h
  split at h
  · rename_i hr
    split at h
    · rename_i hi
      injection h with h1 h2
      exact ⟨hr, hi.1, hi.2, h1.symm⟩
    · injection h with h1 h2; cases h2
  · injection h with h1 h2; cases h2
theorem layA_right {n : ByteArray} {i : Int} (hr : rightB n.data.toList = true) (h0 : 0 ≤ i) (h1 : i < 64) : La.layA n i = (La.layL n i, 0) := by
  unfold La.layA
  rw [if_pos hr, if_pos ⟨h0, h1⟩]
theorem layA_bytes (n : ByteArray) (i : Int) : Bytes (La.layA n i).1 := by
  unfold La.layA
  split
  · rename_i hr
    split
    · rename_i hi; exact layL_bytes n i (right_size hr).2 hi.1 hi.2
    · exact Bytes.nil
  · exact Bytes.nil

theorem rd_layL0 (n : ByteArray) (i : Int) : rd (La.layL n i) 0 = n.size := rfl
theorem rd_layL1 (n : ByteArray) (i : Int) : rd (La.layL n i) 1 = La.bitsOf n.data.toList := rfl
theorem rd_layL2 (n : ByteArray) (i : Int) : rd (La.layL n i) 2 = i := rfl
theorem layL_mid (n : ByteArray) (i : Int) : ((La.layL n i).take (3 + n.size)).drop 3 = n.data.toList.map fun b => (b.toNat : Int) := by
  have hl : (n.data.toList.map fun b => (b.toNat : Int)).length = n.size := by rw [List.length_map, ← Lib.size_eq]
  rw [← List.take_drop]
  unfold La.layL
  rw [List.append_assoc]
  show List.take n.size ((n.data.toList.map fun b => (b.toNat : Int)) ++ List.replicate (13 - n.size) 0) = _
  rw [List.take_append_of_le_length (by omega), List.take_of_length_le (by omega)]
theorem name_layL (n : ByteArray) (i : Int) : nameOf (La.layL n i) = n := by
  unfold nameOf
  rw [rd_layL0]
  have h : (3 + (n.size : Int)).toNat = 3 + n.size := by omega
  rw [h, layL_mid, str_of]
theorem layL_ne (n : ByteArray) (i : Int) (hn : 1 ≤ n.size) : La.layL n i ≠ zeros := by
  intro h
  have h1 : rd (La.layL n i) 0 = rd zeros 0 := by rw [h]
  rw [rd_layL0] at h1
  have h2 : rd zeros 0 = 0 := rfl
  omega
theorem takeO_zeros : takeO zeros = some none := by unfold takeO; rw [if_pos rfl]
theorem takeO_lay {n : ByteArray} {i : Int} (hr : rightB n.data.toList = true) (h0 : 0 ≤ i) (h1 : i < 64) : takeO (La.layL n i) = some (some (n, i)) := by
  have hn := right_size hr
  unfold takeO
  rw [if_neg (layL_ne n i hn.1), name_layL, rd_layL2, rd_layL0, if_pos ⟨La.layL_len n i hn.2, by omega, layA_right hr h0 h1⟩]
theorem takeO_none {b : List Int} (h : takeO b = some none) : b = zeros := by
  unfold takeO at h
  split at h
  · assumption
  · split at h <;> simp at h
theorem takeO_some {b : List Int} {n : ByteArray} {i : Int} (h : takeO b = some (some (n, i))) : b = La.layL n i ∧ rightB n.data.toList = true ∧ 0 ≤ i ∧ i < 64 := by
  unfold takeO at h
  split at h
  · simp at h
  · split at h
    · rename_i hc
      simp only [Option.some.injEq, Prod.mk.injEq] at h
      obtain ⟨rfl, rfl⟩ := h
      obtain ⟨h1, h2, h3, h4⟩ := layA_ok hc.2.2
      exact ⟨h4, h1, h2, h3⟩
    · simp at h

/-- What entry.Take answers. -/
theorem take_eq (k : Nat) {b : List Int} (hb : Bytes b) (hk : 1 ≤ k) : D.entry_Take.f k b = some (takeA b) := by
  obtain ⟨k, rfl⟩ : ∃ m, k = m + 1 := ⟨k - 1, by omega⟩
  have hz : ∀ c : List Int, Bytes c → ((strOfNums c).toList == (strOfNums b).toList) = decide (c = b) := fun c hc => by
    rw [Bool.eq_iff_iff, beq_iff_eq, decide_eq_true_eq]; exact str_inj hc hb
  have j : ∀ x, D.entry_Take.j0 (k + 1) b x = if x = true then some ((⟨#[]⟩ : ByteArray), 0, false, 121) else D.entry_Take.j0 (k + 1) b false := fun x => by
    cases x
    · rfl
    · rw [if_pos rfl]; simp only [D.entry_Take.j0]; rfl
  unfold D.entry_Take.f P.entry_free.f
  rw [if_pos (by decide), Option.bind_some]
  by_cases h0 : b = zeros
  · subst h0
    rw [if_pos (by rw [beq_iff_eq]; rfl)]
    unfold takeA; rw [takeO_zeros]
  · have e0 : ((strOfNums b).toList == (strOfNums (List.replicate 16 0)).toList) = false := by
      rw [beq_eq_false_iff_ne]
      intro h
      exact h0 ((str_inj hb (Bytes.zeros 16)).1 h)
    rw [e0, if_neg (by decide)]
    have r0 := hb.rd 0
    have r2 := hb.rd 2
    by_cases h1 : b.length = 16
    · rw [if_pos (by omega), if_pos (by omega), w_small (by omega) (by omega), j]
      by_cases h2 : rd b 0 ≤ 13
      · have w3 : wrap64 (3 + wrap64 (rd b 0)) = 3 + rd b 0 := by rw [w_small (x := rd b 0) (by omega) (by omega), w_small (by omega) (by omega)]
        rw [if_neg (by rw [decide_eq_true_eq]; omega)]
        simp only [D.entry_Take.j0]
        rw [if_neg (by decide), if_pos (by omega), w3, if_pos (by omega), if_pos (by omega), if_pos (by omega), w_small (x := rd b 2) (by omega) (by omega)]
        show ((some (La.layA (nameOf b) (rd b 2))).bind _) = _
        rw [Option.bind_some]
        unfold takeA takeO
        rw [if_neg h0]
        have hl := layA_bytes (nameOf b) (rd b 2)
        by_cases h3 : (La.layA (nameOf b) (rd b 2)).2 = 0
        · rw [if_pos h3]
          by_cases h4 : (La.layA (nameOf b) (rd b 2)).1 = b
          · rw [if_pos ((str_inj hl hb).2 h4), if_pos ⟨h1, h2, Prod.ext h4 h3⟩]
            rfl
          · rw [if_neg (fun h => h4 ((str_inj hl hb).1 h)), if_neg (fun h => h4 (by rw [h.2.2]))]
        · rw [if_neg h3, if_neg (fun h => h3 (by rw [h.2.2]))]
      · rw [if_pos (by rw [decide_eq_true_eq]; omega)]
        unfold takeA takeO
        rw [if_neg h0, if_neg (fun h => h2 h.2.1)]
    · rw [if_neg (by omega), j, if_pos rfl]
      unfold takeA takeO
      rw [if_neg h0, if_neg (fun h => h1 h.1)]
theorem rtake_eq (k : Nat) {b : List Int} (hb : Bytes b) (hk : 1 ≤ k) : D.moatref12_Take.f k b = some (takeA b) := by
  obtain ⟨k, rfl⟩ : ∃ m, k = m + 1 := ⟨k - 1, by omega⟩
  have j : ∀ x, D.moatref12_Take.j0 (k + 1) b x = if x = true then some ((⟨#[]⟩ : ByteArray), 0, false, 121) else D.moatref12_Take.j0 (k + 1) b false := fun x => by
    cases x
    · rfl
    · rw [if_pos rfl]; simp only [D.moatref12_Take.j0]; rfl
  unfold D.moatref12_Take.f
  rw [if_pos (by decide)]
  by_cases h0 : b = zeros
  · subst h0
    rw [if_pos (by rfl)]
    unfold takeA; rw [takeO_zeros]
  · rw [if_neg (fun h => h0 ((str_inj hb (Bytes.zeros 16)).1 h))]
    have r0 := hb.rd 0
    have r2 := hb.rd 2
    by_cases h1 : b.length = 16
    · rw [if_pos (by omega), if_pos (by omega), j]
      by_cases h2 : rd b 0 ≤ 13
      · have w3 : wrap64 (3 + wrap64 (rd b 0)) = 3 + rd b 0 := by rw [w_small (x := rd b 0) (by omega) (by omega), w_small (by omega) (by omega)]
        rw [if_neg (by rw [decide_eq_true_eq]; omega)]
        simp only [D.moatref12_Take.j0]
        rw [if_neg (by decide), if_pos (by omega), w3, if_pos (by omega), if_pos (by omega), if_pos (by omega), w_small (x := rd b 2) (by omega) (by omega)]
        show ((some (La.layA (nameOf b) (rd b 2))).bind _) = _
        rw [Option.bind_some]
        unfold takeA takeO
        rw [if_neg h0]
        have hl := layA_bytes (nameOf b) (rd b 2)
        by_cases h3 : (La.layA (nameOf b) (rd b 2)).2 = 0
        · rw [if_pos h3]
          by_cases h4 : (La.layA (nameOf b) (rd b 2)).1 = b
          · rw [if_pos ((str_inj hl hb).2 h4), if_pos ⟨h1, h2, Prod.ext h4 h3⟩]
            rfl
          · rw [if_neg (fun h => h4 ((str_inj hl hb).1 h)), if_neg (fun h => h4 (by rw [h.2.2]))]
        · rw [if_neg h3, if_neg (fun h => h3 (by rw [h.2.2]))]
      · rw [if_pos (by rw [decide_eq_true_eq]; omega)]
        unfold takeA takeO
        rw [if_neg h0, if_neg (fun h => h2 h.2.1)]
    · rw [if_neg (by omega), j, if_pos rfl]
      unfold takeA takeO
      rw [if_neg h0, if_neg (fun h => h1 h.1)]
end Go.Proofs.Ytinfjmdcmfpdiaa.Md

/- A directory as a row of slots: bytes to slots and back. No walk. -/
namespace Go.Proofs.Ytinfjmdcmfpdiaa.Md
open Go.RowKit Go.Proofs.Ytinfjmdcmfpdiaa.Rt Go.Proofs.YtinfjmdcmfpdiaaW.PrintWords Go.Proofs.YtinfjmdcmfpdiaaW.PrintLast Go.Proofs.YtinfjmdcmfpdiaaW.PrintMore

/-- A slot: an entry, or free. -/
abbrev Sl := Option (ByteArray × Int)
def okE (e : ByteArray × Int) : Prop := rightB e.1.data.toList = true ∧ 0 ≤ e.2 ∧ e.2 < 64
def slotB : Sl → List Int
  | none => zeros
  | some e => La.layL e.1 e.2
def bytesS (s : List Sl) : List Int := s.flatMap slotB
def names (s : List Sl) : List ByteArray := s.filterMap (Option.map Prod.fst)
def AllOk (s : List Sl) : Prop := ∀ e, some e ∈ s → okE e
/-- A directory. -/
structure Good (s : List Sl) : Prop where
  ok : AllOk s
  apart : (names s).Nodup
  room : s.length ≤ 240

theorem AllOk.nil : AllOk [] := fun e h => by cases h
theorem AllOk.append {s t : List Sl} (hs : AllOk s) (ht : AllOk t) : AllOk (s ++ t) := fun e h => (List.mem_append.1 h).elim (hs e) (ht e)
theorem AllOk.none : AllOk [none] := fun e h => by simp at h
theorem AllOk.one {e : ByteArray × Int} (h : okE e) : AllOk [some e] := fun e' h' => by
  simp only [List.mem_singleton, Option.some.injEq] at h'
  rw [h']; exact h
theorem AllOk.left {s t : List Sl} (h : AllOk (s ++ t)) : AllOk s := fun e he => h e (List.mem_append.2 (.inl he))
theorem AllOk.right {s t : List Sl} (h : AllOk (s ++ t)) : AllOk t := fun e he => h e (List.mem_append.2 (.inr he))
theorem AllOk.tail {o : Sl} {s : List Sl} (h : AllOk (o :: s)) : AllOk s := fun e he => h e (List.mem_cons_of_mem _ he)
theorem AllOk.head {e : ByteArray × Int} {s : List Sl} (h : AllOk (some e :: s)) : okE e := h e (by simp)

theorem okE.size {e : ByteArray × Int} (h : okE e) : 1 ≤ e.1.size ∧ e.1.size ≤ 13 := right_size h.1
theorem slotB_len {s : List Sl} (hs : AllOk s) {o : Sl} (ho : o ∈ s) : (slotB o).length = 16 := by
  cases o with
  | none => rfl
  | some e => exact La.layL_len e.1 e.2 (hs e ho).size.2
theorem bytesS_nil : bytesS [] = [] := rfl
theorem bytesS_cons (o : Sl) (s : List Sl) : bytesS (o :: s) = slotB o ++ bytesS s := by simp [bytesS]
theorem bytesS_append (s t : List Sl) : bytesS (s ++ t) = bytesS s ++ bytesS t := by simp [bytesS]
theorem bytesS_len {s : List Sl} (hs : AllOk s) : (bytesS s).length = 16 * s.length := by
  induction s with
  | nil => rfl
  | cons o s ih =>
    rw [bytesS_cons, List.length_append, slotB_len hs (by simp), ih hs.tail, List.length_cons]
    omega
theorem slotB_bytes {s : List Sl} (hs : AllOk s) {o : Sl} (ho : o ∈ s) : Bytes (slotB o) := by
  cases o with
  | none => exact Bytes.zeros 16
  | some e => exact layL_bytes e.1 e.2 (hs e ho).size.2 (hs e ho).2.1 (hs e ho).2.2
theorem bytesS_bytes {s : List Sl} (hs : AllOk s) : Bytes (bytesS s) := by
  induction s with
  | nil => exact Bytes.nil
  | cons o s ih => rw [bytesS_cons]; exact Bytes.append (slotB_bytes hs (by simp)) (ih hs.tail)
theorem takeO_slotB {s : List Sl} (hs : AllOk s) {o : Sl} (ho : o ∈ s) : takeO (slotB o) = some o := by
  cases o with
  | none => exact takeO_zeros
  | some e => exact takeO_lay (hs e ho).1 (hs e ho).2.1 (hs e ho).2.2

/-- The i-th sixteen bytes. -/
def entL (l : List Int) (i : Nat) : List Int := (l.drop (16 * i)).take 16
theorem entL_len (l : List Int) (i : Nat) (h : 16 * (i + 1) ≤ l.length) : (entL l i).length = 16 := by unfold entL; rw [List.length_take, List.length_drop]; omega
theorem entL_split {s : List Sl} (hs : AllOk s) (o : Sl) (t : List Sl) (h : (slotB o).length = 16) : entL (bytesS (s ++ o :: t)) s.length = slotB o := by
  unfold entL
  rw [bytesS_append, List.drop_append_of_le_length (by rw [bytesS_len hs]; omega), List.drop_of_length_le (by rw [bytesS_len hs]; omega), List.nil_append, bytesS_cons, List.take_append_of_le_length (by omega), List.take_of_length_le (by omega)]
theorem entL_bytes {s : List Sl} (hs : AllOk s) (i : Nat) (h : i < s.length) : entL (bytesS s) i = slotB s[i] := by
  have e : s = s.take i ++ s[i] :: s.drop (i + 1) := by rw [← List.drop_eq_getElem_cons h, List.take_append_drop]
  have hl : (s.take i).length = i := by rw [List.length_take]; omega
  have h1 : AllOk (s.take i) := fun e' he => hs e' (List.mem_of_mem_take he)
  have := entL_split h1 s[i] (s.drop (i + 1)) (slotB_len hs (List.getElem_mem h))
  rw [hl, ← e] at this
  exact this

def hasN (l : List ByteArray) (n : ByteArray) : Bool := l.any fun m => decide (m = n)
theorem hasN_iff (l : List ByteArray) (n : ByteArray) : hasN l n = true ↔ n ∈ l := by simp [hasN]
instance decMem (n : ByteArray) (l : List ByteArray) : Decidable (n ∈ l) := decidable_of_iff (hasN l n = true) (hasN_iff l n)
/-- The slots that entry.All finds, from the i-th on. -/
def slotsGo (l : List Int) : Nat → Nat → List Sl → Option (List Sl)
  | 0, _, acc => some acc
  | d + 1, i, acc =>
    match takeO (entL l i) with
    | none => none
    | some none => slotsGo l d (i + 1) (acc ++ [none])
    | some (some e) => if e.1 ∈ names acc then none else slotsGo l d (i + 1) (acc ++ [some e])
def dirO (l : List Int) : Option (List Sl) := if l.length % 16 = 0 ∧ l.length ≤ 3840 then slotsGo l (l.length / 16) 0 [] else none

theorem names_append (s t : List Sl) : names (s ++ t) = names s ++ names t := by simp [names]
theorem names_none : names [none] = [] := rfl
theorem names_some (e : ByteArray × Int) : names [some e] = [e.1] := rfl
theorem names_mem {s : List Sl} {n : ByteArray} : n ∈ names s ↔ ∃ i, some (n, i) ∈ s := by
  unfold names
  rw [List.mem_filterMap]
  constructor
  · rintro ⟨o, ho, h⟩
    cases o with
    | none => simp at h
    | some e => simp at h; subst h; exact ⟨e.2, ho⟩
  · rintro ⟨i, h⟩; exact ⟨_, h, rfl⟩

theorem take_next (l : List Int) (i : Nat) : l.take (16 * (i + 1)) = l.take (16 * i) ++ entL l i := by
  unfold entL
  rw [← List.take_add]; rfl
theorem go_good (l : List Int) (d : Nat) : ∀ (i : Nat) (acc s : List Sl), l.length = 16 * (i + d) → acc.length = i → l.take (16 * i) = bytesS acc → AllOk acc → (names acc).Nodup → slotsGo l d i acc = some s →
    l = bytesS s ∧ AllOk s ∧ (names s).Nodup ∧ s.length = i + d := by
  induction d with
  | zero =>
    intro i acc s hl ha ht ho hn h
    simp only [slotsGo, Option.some.injEq] at h
    subst h
    refine ⟨?_, ho, hn, by omega⟩
    rw [← ht, List.take_of_length_le (by omega)]
  | succ d ih =>
    intro i acc s hl ha ht ho hn h
    simp only [slotsGo] at h
    split at h
    · cases h
    · rename_i hk
      obtain ⟨h1, h2, h3, h4⟩ := ih (i + 1) _ s (by omega) (by simp; omega) (by rw [take_next, ht, takeO_none hk, bytesS_append]; rfl) (ho.append .none) (by rw [names_append, names_none, List.append_nil]; exact hn) h
      exact ⟨h1, h2, h3, by omega⟩
    · rename_i e hk
      split at h
      · cases h
      · rename_i hm
        obtain ⟨n, ino⟩ := e
        obtain ⟨k1, k2, k3, k4⟩ := takeO_some hk
        obtain ⟨h1, h2, h3, h4⟩ := ih (i + 1) _ s (by omega) (by simp; omega) (by rw [take_next, ht, k1, bytesS_append]; simp [bytesS, slotB]) (ho.append (.one ⟨k2, k3, k4⟩))
          (by rw [names_append, names_some, List.nodup_append]; exact ⟨hn, by simp, by intro a ha b hb; simp at hb; subst hb; rintro rfl; exact hm ha⟩) h
        exact ⟨h1, h2, h3, by omega⟩
theorem dir_good {l : List Int} {s : List Sl} (h : dirO l = some s) : l = bytesS s ∧ Good s := by
  unfold dirO at h
  split at h
  · rename_i hc
    obtain ⟨h1, h2, h3, h4⟩ := go_good l (l.length / 16) 0 [] s (by omega) rfl (by simp [bytesS]) .nil (by simp [names]) h
    exact ⟨h1, h2, h3, by omega⟩
  · cases h
theorem good_go {s : List Sl} (hs : AllOk s) (hn : (names s).Nodup) (d : Nat) : ∀ i, i + d = s.length → slotsGo (bytesS s) d i (s.take i) = some s := by
  induction d with
  | zero =>
    intro i h
    simp only [slotsGo]
    rw [List.take_of_length_le (by omega)]
  | succ d ih =>
    intro i h
    have hi : i < s.length := by omega
    simp only [slotsGo]
    rw [entL_bytes hs i hi, takeO_slotB hs (List.getElem_mem hi)]
    have e : s.take i ++ [s[i]] = s.take (i + 1) := by rw [List.take_succ_eq_append_getElem hi]
    cases hsi : s[i] with
    | none =>
      rw [hsi] at e
      simp only
      rw [e]; exact ih (i + 1) (by omega)
    | some p =>
      rw [hsi] at e
      simp only
      rw [if_neg, e]
      · exact ih (i + 1) (by omega)
      · intro hm
        have e2 : s = s.take i ++ some p :: s.drop (i + 1) := by
          have := List.take_append_drop i s
          rw [List.drop_eq_getElem_cons hi, hsi] at this
          exact this.symm
        rw [e2, names_append, List.nodup_append] at hn
        exact hn.2.2 p.1 hm p.1 (by simp [names]) rfl
theorem good_dir {s : List Sl} (h : Good s) : dirO (bytesS s) = some s := by
  unfold dirO
  have hl := bytesS_len h.ok
  have := h.room
  rw [if_pos (by omega)]
  have e : (bytesS s).length / 16 = s.length := by omega
  rw [e]
  exact good_go h.ok h.apart s.length 0 (by omega)
end Go.Proofs.Ytinfjmdcmfpdiaa.Md

/- entry.at: the how-many-eth sixteen bytes, as a cut of the row. -/
namespace Go.Proofs.Ytinfjmdcmfpdiaa.At
open Go.RowKit Go.Proofs.YtinfjmdcmfpdiaaW.PrintWords Go.Proofs.YtinfjmdcmfpdiaaW.PrintLast Go.Proofs.YtinfjmdcmfpdiaaW.PrintMore
set_option linter.unusedVariables false
set_option linter.unusedSimpArgs false

set_option maxHeartbeats 1000000 in
set_option maxRecDepth 100000 in
theorem at_any (ad : Addr) (n c i : Nat) (hi : (i + 1) * 16 ≤ n) (hc : n ≤ c) (hn : n ≤ 100000) (w : World) :
    Calls Try.prog 36 #[.slice (some ad) n c, .int .i64 i] w fun e w' => e = .returned (.slice (some (ad.add (i * 16))) 16 (c - i * 16)) ∧ w' = w := by
  obtain ⟨x, hx⟩ : ∃ x : Nat, x = i * 16 := ⟨_, rfl⟩
  obtain ⟨y, hy⟩ : ∃ y : Nat, y = (i + 1) * 16 := ⟨_, rfl⟩
  have e1 : (i : Int) * 16 = (x : Int) := by omega
  have e2 : ((i : Int) + 1) * 16 = (y : Int) := by omega
  have b1 : 0 ≤ (x : Int) := by omega
  have b2 : (x : Int) ≤ (y : Int) := by omega
  have b3 : (y : Int) ≤ (c : Int) := by omega
  have b4 : x ≤ y := by omega
  have b5 : y ≤ c := by omega
  rw [← hx]
  have hxy : Hid (y - x = 16) := Lib.hid (by omega)
  replace hx := Lib.hid hx
  clear hy
  go_enter Try.func36, Try.ntmps36
  go_wp2_with fail
  go_ret
  rw [hxy.out]
  exact ⟨rfl, rfl⟩
end Go.Proofs.Ytinfjmdcmfpdiaa.At

/- Words for entry.All's walk: a set of names kept as map[string]bool; entry.at and entry.Take at the i-th sixteen bytes. -/
namespace Go.Proofs.Ytinfjmdcmfpdiaa.Al
open Go.RowKit Go.Maps Go.Proofs.Ytinfjmdcmfpdiaa.Rt Go.Proofs.Ytinfjmdcmfpdiaa.Md Go.Proofs.YtinfjmdcmfpdiaaW.PrintWords Go.Proofs.YtinfjmdcmfpdiaaW.PrintLast Go.Proofs.YtinfjmdcmfpdiaaW.PrintMore
set_option linter.unusedVariables false
set_option linter.unusedSimpArgs false

/-- The set as the map reads. -/
def putN (m : DataW Unit) (n : ByteArray) : DataW Unit := m.put (.string n.data.toList) (.lit (.bool true))
def mapN (l : List ByteArray) : DataW Unit := l.foldl putN (.map [])
theorem mapN_snoc (l : List ByteArray) (n : ByteArray) : mapN (l ++ [n]) = (mapN l).put (.string n.data.toList) (.lit (.bool true)) := by simp [mapN, putN, List.foldl_append]
theorem ba_inj {a b : ByteArray} (h : a.data.toList = b.data.toList) : a = b := ba_ext h
theorem fold_at (n : ByteArray) (z : DataW Unit) : ∀ (l : List ByteArray) (D : DataW Unit), IsMap D → (l.foldl putN D).atKey (.string n.data.toList) z = if hasN l n = true then .lit (.bool true) else D.atKey (.string n.data.toList) z := by
  intro l
  induction l with
  | nil => intro D hD; simp [hasN]
  | cons x r ih =>
    intro D hD
    rw [List.foldl_cons, ih (putN D x) (hD.put _ _)]
    by_cases hr : hasN r n = true
    · rw [if_pos hr, if_pos (by unfold hasN at hr ⊢; rw [List.any_cons, hr, Bool.or_true])]
    · rw [if_neg hr]
      by_cases hx : x = n
      · subst hx
        rw [if_pos (by simp [hasN])]
        exact atKey_put_same hD (by simp [WideAt.IsKeyLit]) _ _
      · rw [if_neg (by unfold hasN at hr ⊢; rw [List.any_cons, Bool.or_eq_true]; rintro (h | h); exact hx (of_decide_eq_true h); exact hr h)]
        exact atKey_put_other (fun h => hx (ba_inj (by injection h with h; exact h.symm))) _ _
theorem mapN_at (l : List ByteArray) (n : ByteArray) : (mapN l).atKey (.string n.data.toList) (.lit (.bool false)) = .lit (.bool (hasN l n)) := by
  unfold mapN
  rw [fold_at n _ l _ isMap_empty]
  cases h : hasN l n
  · rfl
  · rfl

theorem bool_inv {P : Program} {e : TypeId} (he : P.underlying e = some .bool) {v : Value} {z : DataW Unit × List MemPlace} (h : plainElem P e v = some z) : ∃ x, v = .bool x ∧ z = (.lit (.bool x), []) := by
  unfold plainElem at h
  rw [he] at h
  cases v <;> simp at h
  exact ⟨_, rfl, h.symm⟩
/-- 'had[n]', had a set of names. -/
theorem set_run {P : Program} {w : World} {t k e : TypeId} (hk : P.underlying k = some .string) (ht : P.underlying t = some (.map k e)) (he : P.underlying e = some .bool) (hz : (zeroValue e).run P w = .ok (.bool false) w) {b m : Nat} {l : List ByteArray}
    (hown : w.ownsMap P k (plainElem P e) b m (mapN l)) {s : ByteArray} (hs : s.size ≤ maxLen) {r : Bool} (hr : hasN l s = r) :
    (Instr.lookup t (.map (some b)) (.string s) false).run P w = .ok (.bool r) w := by
  obtain ⟨v, ps, hrun, hv⟩ := hown.lookup (Maps.string_keyed hk) ht hz (plainElem_bool he false) (WideMaps.keyOf_string_mk hk hs)
  obtain ⟨c, rfl, hc⟩ := bool_inv he hv
  rw [mapN_at, hr] at hc
  simp only [Prod.mk.injEq, DataW.lit.injEq, Lit.bool.injEq] at hc
  obtain ⟨rfl, _⟩ := hc
  exact hrun
theorem zeroB (w : World) : (zeroValue 4).run Try.prog w = .ok (.bool false) w := by kernel_rfl

/-- The i-th sixteen bytes of a row that is read. -/
theorem C_ent {w : World} {ad : Addr} {l : List Int} {i c : Nat} (h : Kd.C (Kd.int .u8) w (some ad) l.length l) (hi : (i + 1) * 16 ≤ l.length) (hc : l.length ≤ c) :
    Kd.C (Kd.int .u8) w (some (ad.add (i * 16))) (entL l i).length (entL l i) := by
  have h2 := Kd.C_mid (lo := 16 * i) (hi := 16 * i + 16) (c := c) h (by omega) (by omega) hc
  rw [if_neg (by omega)] at h2
  have e : (l.take (16 * i + 16)).drop (16 * i) = entL l i := by
    unfold entL
    rw [← List.take_drop]
  rw [e] at h2
  have e2 : (some ad).map (fun x => x.add (16 * i * (Kd.int .u8).sz)) = some (ad.add (i * 16)) := by
    show some (ad.add (16 * i * 1)) = _
    congr 2; omega
  rw [e2] at h2
  exact h2
theorem take_any (w : World) (ad : Addr) (l : List Int) (i c c' : Nat) (hb : Bytes l) (h : Kd.C (Kd.int .u8) w (some ad) l.length l) (hi : (i + 1) * 16 ≤ l.length) (hc : l.length ≤ c) (hc' : 16 ≤ c') (r1 : ByteArray) (r2 : Int) (r3 : Bool) (r4 : Int) (ht : takeA (entL l i) = (r1, r2, r3, r4)) :
    Calls Try.prog 13 #[.slice (some (ad.add (i * 16))) 16 c'] w fun e w' => e = .returned (.tuple #[.agg #[.string r1, .int .i64 r2], .bool r3, .int .i64 r4]) ∧ Below w.heap.size w w' := by
  have hl : (entL l i).length = 16 := entL_len l i (by omega)
  have := D.entry_Take.calls 1 (some (ad.add (i * 16))) c' (entL l i) r1 r2 r3 r4 w (C_ent h hi hc) (by omega) (by rw [take_eq 1 (show Bytes (entL l i) from (hb.drop _).take _) (Nat.le_refl _), ht])
  rw [hl] at this
  exact this

def entOf (e : ByteArray × Int) : D.S23 := ⟨e.1, e.2⟩
def entsOf (s : List Sl) : List D.S23 := s.filterMap (Option.map entOf)
theorem entsOf_none (s : List Sl) : entsOf (s ++ [none]) = entsOf s := by simp [entsOf]
theorem entsOf_some (s : List Sl) (e : ByteArray × Int) : entsOf (s ++ [some e]) = entsOf s ++ [entOf e] := by simp [entsOf]
theorem entsOf_le (s : List Sl) : (entsOf s).length ≤ s.length := List.length_filterMap_le _ _
/-- What entry.All answers. -/
def ansA : Option (List Sl) → List D.S23 × Int
  | none => ([], 121)
  | some s => (entsOf s, 0)
def allA (l : List Int) : List D.S23 × Int := ansA (dirO l)
end Go.Proofs.Ytinfjmdcmfpdiaa.Al

/- entry.All: every row of bytes. -/
namespace Go.Proofs.Ytinfjmdcmfpdiaa.Al
open Go.RowKit Go.Maps Go.Proofs.Ytinfjmdcmfpdiaa.Rt Go.Proofs.Ytinfjmdcmfpdiaa.Md Go.Proofs.YtinfjmdcmfpdiaaW.PrintWords Go.Proofs.YtinfjmdcmfpdiaaW.PrintLast Go.Proofs.YtinfjmdcmfpdiaaW.PrintMore
set_option linter.unusedVariables false
set_option linter.unusedSimpArgs false

set_option maxHeartbeats 2000000 in
set_option maxRecDepth 100000 in
theorem all_bad (A0 : Option Addr) (c0 : Nat) (l0 : List Int) (w : World) (hbad : ¬ (l0.length % 16 = 0 ∧ l0.length ≤ 3840)) (hm : l0.length ≤ 9223372036854775807) :
    Calls Try.prog 23 #[.slice A0 l0.length c0] w fun e w' => ∃ v : Value, e = .returned (.tuple #[v, .int .i64 121]) ∧ Kd.R D.k23 23 w' w.heap.size (fun _ => True) v [] ∧ Below w.heap.size w w' := by
  by_cases h : l0.length % 16 = 0
  · have h1 : ((l0.length : Int) % 16 != 0) = false := by rw [bne_eq_false_iff_eq]; omega
    have h2 : decide ((l0.length : Int) > 3840) = true := decide_eq_true (by omega)
    clear hbad h
    go_enter Try.func23, Try.ntmps23
    go_wp2_with fail
    go_ret2
    exact ⟨_, rfl, Kd.R_nil _ _ _ _ _, Below.refl _ _⟩
  · have h1 : ((l0.length : Int) % 16 != 0) = true := by rw [bne_iff_ne]; omega
    clear hbad h
    go_enter Try.func23, Try.ntmps23
    go_wp2_with fail
    go_ret2
    exact ⟨_, rfl, Kd.R_nil _ _ _ _ _, Below.refl _ _⟩

theorem hnil (s : List Sl) (h : AllOk s) : hasN (names s) ⟨#[]⟩ = false := by
  cases hh : hasN (names s) ⟨#[]⟩
  · rfl
  · obtain ⟨i, hi⟩ := names_mem.1 ((hasN_iff _ _).1 hh)
    have h2 := (h _ hi).1
    have h3 : rightB [] = false := rfl
    rw [show ((⟨#[]⟩ : ByteArray), i).1.data.toList = [] from rfl, h3] at h2
    cases h2
/-- Behind a name's store into the set. -/
theorem all_stored {w w1 w2 : World} {n : ByteArray} {ino : Int} {v : Value} {xs : List D.S23} {l : List ByteArray} {k : Nat} (hlt : w.heap.size < w1.heap.size) (hB : Below w.heap.size w w1)
    (hO : Kd.R D.k23 23 w1 w.heap.size (fun b => b ≠ w.heap.size) v xs) (hM : w2.ownsMap Try.prog 9 (plainElem Try.prog 4) w.heap.size (k + 1) ((mapN l).put (.string n.data.toList) (.lit (.bool true))))
    (hg : (w1.alloc (.cells #[.string n, .int .i64 ino] 23)).grownBy w2 (some w.heap.size)) :
    Hid (w2.ownsMap Try.prog 9 (plainElem Try.prog 4) w.heap.size (k + 1) (mapN (l ++ [n]))) ∧ Hid (w2.heap[w1.heap.size]? = some (.cells #[.string n, .int .i64 ino] 23 (0, 0))) ∧ Hid (Kd.R D.k23 23 w2 w.heap.size (fun b => b ≠ w.heap.size) v xs) ∧ Hid (Below w.heap.size w w2) := by
  refine ⟨Lib.hid (by rw [mapN_snoc]; exact hM), Lib.hid (blk_grown (blk_new w1 _) hg (fun h => by injection h with h; omega)), Lib.hid (Kd.R_grown (Kd.R_alloc hO _) hg (fun b hb he => by injection he with he; exact hb he)), Lib.hid (pw_below_grown (below_alloc hB _) _ (below_alloc hB _).size hg (fun b hb => by injection hb with hb; omega))⟩

set_option maxHeartbeats 4000000 in
set_option maxRecDepth 100000 in
theorem all_good (A0 : Option Addr) (c0 : Nat) (l0 : List Int) (w : World) (hb : Bytes l0) (hr0 : Kd.C (Kd.int .u8) w A0 l0.length l0) (hc0 : l0.length ≤ c0) (hg : l0.length % 16 = 0) (hl : l0.length ≤ 3840) :
    Calls Try.prog 23 #[.slice A0 l0.length c0] w fun e w' => ∃ v : Value, e = .returned (.tuple #[v, .int .i64 (allA l0).2]) ∧ Kd.R D.k23 23 w' w.heap.size (fun _ => True) v (allA l0).1 ∧ Below w.heap.size w w' := by
  have HR := Lib.hid hr0
  have HBy := Lib.hid hb
  have h1 : ((l0.length : Int) % 16 != 0) = false := by rw [bne_eq_false_iff_eq]; omega
  have h2 : decide ((l0.length : Int) > 3840) = false := decide_eq_false (by omega)
  have hD : dirO l0 = slotsGo l0 (l0.length / 16) 0 [] := by unfold dirO; rw [if_pos ⟨hg, hl⟩]
  obtain ⟨R, hR⟩ : ∃ R, R = dirO l0 := ⟨_, rfl⟩
  have hA : allA l0 = ansA R := by rw [hR]; rfl
  rw [hA]
  have HG := Lib.hid hg
  have HS : Hid (slotsGo l0 (l0.length / 16 - 0) 0 [] = R) := Lib.hid (by rw [hR, hD]; rfl)
  clear hb hr0 hD hA hR hg
  have hmm := @run_makeMap Try.prog
  go_enter Try.func23, Try.ntmps23
  go_wp2_with fail
  go_loopw [5, 23] (fun v i wr => ∃ (k : Nat) (s : List Sl), i = .int .i64 k ∧ k ≤ l0.length / 16 ∧ s.length = k ∧ Hid (AllOk s) ∧ Hid (slotsGo l0 (l0.length / 16 - k) k s = R) ∧ Hid (Kd.R D.k23 23 wr w.heap.size (fun b => b ≠ w.heap.size) v (entsOf s)) ∧ Hid (wr.ownsMap Try.prog 9 (plainElem Try.prog 4) w.heap.size k (mapN (names s))) ∧ Hid (Below w.heap.size w wr)) (fun _ i _ => l0.length / 16 - (intOf i).toNat)
  case atStart => exact ⟨0, [], rfl, Nat.zero_le _, rfl, Lib.hid .nil, HS, Lib.hid (Kd.R_nil _ _ _ _ _), Lib.hid (World.ownsMap_made _ _ _ _), Lib.hid ((Below.refl _ _).alloc (Nat.le_refl _) _)⟩
  case round =>
    obtain ⟨k, s, rfl, hk, hsl, hOk, hS, hO, hM, hB⟩ := hrel
    clear HS
    by_cases hlt : k < l0.length / 16
    · have c1 : decide ((k : Int) < (l0.length : Int) / 16) = true := decide_eq_true (by omega)
      obtain ⟨ad, rfl⟩ : ∃ ad, A0 = some ad := by obtain ⟨ad, e, _⟩ := HR.out.2.2 (by omega); exact ⟨ad, e⟩
      have hd : Hid (l0.length / 16 - k = (l0.length / 16 - (k + 1)) + 1) := Lib.hid (by omega)
      replace hsl := Lib.hid hsl
      obtain ⟨Av, cv, ev⟩ := Kd.R_slice hO.out
      subst ev
      cases hT : takeO (entL l0 k) with
      | none =>
        have hA : Hid (takeA (entL l0 k) = (⟨#[]⟩, 0, false, 121)) := Lib.hid (by unfold takeA; rw [hT])
        have hE : Hid (R = none) := Lib.hid (by rw [← hS.out, hd.out]; simp only [slotsGo]; rw [hT])
        clear hT hS
        go_wp2_with fail
        refine (At.at_any ad l0.length c0 k (by omega) hc0 (by omega) _).mono ?_
        rintro e w' ⟨rfl, rfl⟩
        go_wp2_with fail
        refine (take_any _ ad l0 k c0 _ HBy.out (Kd.C_below HR.out hB.out) (by omega) hc0 (by omega) _ _ _ _ hA.out).mono ?_
        rintro e w1 ⟨rfl, hb⟩
        have hB1 := Lib.hid (below_alloc (below_step hB.out hb) (.cells #[.string ⟨#[]⟩, .int .i64 0] 23))
        clear hb
        go_wp2_with fail
        go_ret2
        rw [hE.out]
        exact ⟨_, rfl, Kd.R_nil _ _ _ _ _, hB1.out⟩
      | some o => cases o with
        | none =>
          have hA : Hid (takeA (entL l0 k) = (⟨#[]⟩, 0, false, 0)) := Lib.hid (by unfold takeA; rw [hT])
          have hE : Hid (slotsGo l0 (l0.length / 16 - (k + 1)) (k + 1) (s ++ [none]) = R) := Lib.hid (by rw [← hS.out, hd.out]; simp only [slotsGo]; rw [hT])
          clear hT hS
          go_wp2_with fail
          refine (At.at_any ad l0.length c0 k (by omega) hc0 (by omega) _).mono ?_
          rintro e w' ⟨rfl, rfl⟩
          go_wp2_with fail
          refine (take_any _ ad l0 k c0 _ HBy.out (Kd.C_below HR.out hB.out) (by omega) hc0 (by omega) _ _ _ _ hA.out).mono ?_
          rintro e w1 ⟨rfl, hb⟩
          have hB1 := Lib.hid (below_alloc (below_step hB.out hb) (.cells #[.string ⟨#[]⟩, .int .i64 0] 23))
          have hM1 := Lib.hid ((hM.out.kept (grown_of_below hb none) (by simp)).alloc (.cells #[.string ⟨#[]⟩, .int .i64 0] 23))
          have hO1 := Lib.hid (Kd.R_alloc (Kd.R_below hO.out hb) (.cells #[.string ⟨#[]⟩, .int .i64 0] 23))
          clear hb
          have hrun := set_run (t := 69) Try.underlying9 Try.underlying69 Try.underlying4 (zeroB _) hM1.out (s := ⟨#[]⟩) (Nat.zero_le _) (r := false) (hnil s hOk.out)
          go_wp2_with fail
          go_roundw
          case rel => exact ⟨k + 1, s ++ [none], by go_num, by omega, by rw [List.length_append, hsl.out]; rfl, Lib.hid (hOk.out.append .none), hE, by rw [entsOf_none]; exact hO1, by rw [names_append, names_none, List.append_nil]; exact Lib.hid (hM1.out.mono (by omega)), hB1⟩
          case measure => simp [intOf]; omega
        | some e =>
          obtain ⟨n, ino⟩ := e
          have hA : Hid (takeA (entL l0 k) = (n, ino, true, 0)) := Lib.hid (by unfold takeA; rw [hT])
          have hok := takeO_some hT
          have hOk2 : Hid (AllOk (s ++ [some (n, ino)])) := Lib.hid (hOk.out.append (.one ⟨hok.2.1, hok.2.2.1, hok.2.2.2⟩))
          have hnm : n.size ≤ maxLen := by have := (right_size hok.2.1).2; unfold maxLen; omega
          cases hr : hasN (names s) n with
          | true =>
            have hE : Hid (R = none) := Lib.hid (by rw [← hS.out, hd.out]; simp only [slotsGo]; rw [hT]; (try simp only); rw [if_pos ((hasN_iff _ _).1 hr)])
            clear hT hS hok
            go_wp2_with fail
            refine (At.at_any ad l0.length c0 k (by omega) hc0 (by omega) _).mono ?_
            rintro e w' ⟨rfl, rfl⟩
            go_wp2_with fail
            refine (take_any _ ad l0 k c0 _ HBy.out (Kd.C_below HR.out hB.out) (by omega) hc0 (by omega) _ _ _ _ hA.out).mono ?_
            rintro e w1 ⟨rfl, hb⟩
            have hB1 := Lib.hid (below_alloc (below_step hB.out hb) (.cells #[.string n, .int .i64 ino] 23))
            have hM1 := Lib.hid ((hM.out.kept (grown_of_below hb none) (by simp)).alloc (.cells #[.string n, .int .i64 ino] 23))
            clear hb
            have hrun := set_run (t := 69) Try.underlying9 Try.underlying69 Try.underlying4 (zeroB _) hM1.out hnm hr
            clear hr
            go_wp2_with fail
            go_ret2
            rw [hE.out]
            exact ⟨_, rfl, Kd.R_nil _ _ _ _ _, hB1.out⟩
          | false =>
            have hE : Hid (slotsGo l0 (l0.length / 16 - (k + 1)) (k + 1) (s ++ [some (n, ino)]) = R) := Lib.hid (by rw [← hS.out, hd.out]; simp only [slotsGo]; rw [hT]; (try simp only); rw [if_neg (fun h => by rw [(hasN_iff _ _).2 h] at hr; cases hr)])
            clear hT hS hok
            go_wp2_with fail
            refine (At.at_any ad l0.length c0 k (by omega) hc0 (by omega) _).mono ?_
            rintro e w' ⟨rfl, rfl⟩
            go_wp2_with fail
            refine (take_any _ ad l0 k c0 _ HBy.out (Kd.C_below HR.out hB.out) (by omega) hc0 (by omega) _ _ _ _ hA.out).mono ?_
            rintro e w1 ⟨rfl, hb⟩
            have hlt1 : w.heap.size < w1.heap.size := Nat.lt_of_lt_of_le hM.out.lt hb.size
            have hB1 := Lib.hid (below_step hB.out hb)
            have hM2 := Lib.hid ((hM.out.kept (grown_of_below hb none) (by simp)).alloc (.cells #[.string n, .int .i64 ino] 23))
            have hO1 := Lib.hid (Kd.R_below hO.out hb)
            clear hb
            have hrun := set_run (t := 69) Try.underlying9 Try.underlying69 Try.underlying4 (zeroB _) hM2.out hnm hr
            clear hr
            go_wp2_with (first | (at_mapUpdate; refine wpList_mapUpdate_own _ rfl _ _ _ 69 rfl 9 4 (Maps.string_keyed Try.underlying9) Try.underlying69 _ w.heap.size k (mapN (names s)) rfl hM2.out (by unfold maxLen; omega) _ _ _ rfl rfl (WideMaps.keyOf_string_mk Try.underlying9 hnm) _ [] (plainElem_bool Try.underlying4 true) ?_; intro w2 hM3 hgrow; obtain ⟨hM4, hbox2, hO2, hB2⟩ := all_stored hlt1 hB1.out hO1.out hM3 hgrow; have d0 := (blk_cell hbox2.out 0).trans rfl; have d1 := (blk_cell hbox2.out 1).trans rfl; clear hM3 hgrow) | ((with_reducible refine gate_builtin (b := .append) (xs := #[.tmp 46, .tmp 48]) rfl ?_); at_builtin; refine Kd.R_append D.k23 (w0 := w) w.heap.size rfl (.tmp 46) (.tmp 48) 40 23 (.agg #[(.string ⟨#[]⟩), (.int .i64 0)]) 24 rfl Try.underlying40 D.info23 rfl (by decide) (by omega) (.slice Av (entsOf s).length cv) (entsOf s) (⟨n, ino⟩ : D.S23) [.string n, .int .i64 ino] (fun b => b ≠ w.heap.size) (fun _ => False) rfl rfl (D.k23_mkM _ _ _ _) (fun _ hk => hk.elim) (fun b hb he => by have := hM4.out.lt; omega) hO2.out hB2.out hB2.out.size (by have := entsOf_le s; have := hsl.out; omega) ?_; intro v3 w3 ho3 hb3 hg3 hat3))
            go_roundw
            case rel => exact ⟨k + 1, s ++ [some (n, ino)], by go_num, by omega, by rw [List.length_append, hsl.out]; rfl, hOk2, hE, by rw [entsOf_some]; exact Lib.hid ho3, by rw [names_append, names_some]; exact Lib.hid (hM4.out.kept hg3 (by have := hO2.out.1; intro he; exact this _ he.symm rfl)), Lib.hid hb3⟩
            case measure => simp [intOf]; omega
    · obtain rfl : k = l0.length / 16 := by omega
      have c1 : decide (((l0.length / 16 : Nat) : Int) < (l0.length : Int) / 16) = false := decide_eq_false (by omega)
      have hE : Hid (some s = R) := Lib.hid (by rw [← hS.out, Nat.sub_self]; rfl)
      clear hS
      go_wp2_with fail
      go_ret2
      rw [← hE.out]
      exact ⟨_, rfl, Kd.R_mono hO.out (fun _ _ => trivial), hB.out⟩
theorem all_any (A0 : Option Addr) (c0 : Nat) (l0 : List Int) (w : World) (hb : Bytes l0) (hr0 : Kd.C (Kd.int .u8) w A0 l0.length l0) (hc0 : l0.length ≤ c0) :
    Calls Try.prog 23 #[.slice A0 l0.length c0] w fun e w' => ∃ v : Value, e = .returned (.tuple #[v, .int .i64 (allA l0).2]) ∧ Kd.R D.k23 23 w' w.heap.size (fun _ => True) v (allA l0).1 ∧ Below w.heap.size w w' := by
  by_cases h : l0.length % 16 = 0 ∧ l0.length ≤ 3840
  · exact all_good A0 c0 l0 w hb hr0 hc0 h.1 h.2
  · have e : allA l0 = ([], 121) := by unfold allA dirO; rw [if_neg h]; rfl
    rw [e]
    exact all_bad A0 c0 l0 w h hr0.2.1
end Go.Proofs.Ytinfjmdcmfpdiaa.Al

/- entry.place: where a name's entry stands in a directory's bytes. -/
namespace Go.Proofs.Ytinfjmdcmfpdiaa.Pc
open Go.RowKit Go.Proofs.Ytinfjmdcmfpdiaa.Rt Go.Proofs.Ytinfjmdcmfpdiaa.Md Go.Proofs.Ytinfjmdcmfpdiaa.Al Go.Proofs.YtinfjmdcmfpdiaaW.PrintWords Go.Proofs.YtinfjmdcmfpdiaaW.PrintLast Go.Proofs.YtinfjmdcmfpdiaaW.PrintMore
set_option linter.unusedVariables false
set_option linter.unusedSimpArgs false

/-! A scope through which the run goes by jumps to several labels. -/
/-- As Q; by a goto: J of the label. -/
def jumps (J : Nat → Act → World → Prop) (Q : Exit → Act → World → Prop) : Exit → Act → World → Prop
  | .goto l, a, w => J l a w
  | e, a, w => Q e a w
section
variable {P : Program} {a : Act} {w : World} {Q : Exit → Act → World → Prop}
theorem jumps_goto (J : Nat → Act → World → Prop) (l : Nat) : jumps J Q (.goto l) a w = J l a w := rfl
theorem jumps_ret (J : Nat → Act → World → Prop) : jumps J Q .ret a w = Q .ret a w := rfl
theorem jumps_normal (J : Nat → Act → World → Prop) : jumps J Q .normal a w = Q .normal a w := rfl
theorem jumps_exit (J : Nat → Act → World → Prop) (i : Nat) : jumps J Q (.exit i) a w = Q (.exit i) a w := rfl
theorem jumps_imp {J J' : Nat → Act → World → Prop} (h : ∀ l a w, J l a w → J' l a w) : ∀ (e : Exit) (a : Act) (w : World), jumps J Q e a w → jumps J' Q e a w := by
  intro e a w hq
  cases e <;> first | exact hq | exact h _ _ _ hq

theorem wp_scope_many {c : Code} (rest : Nat → Option Code) (J : Nat → Act → World → Prop) (μ : Nat → Act → World → Nat) (hf : ∀ l r, rest l = some r → findLabel c l = some r) (hJ : ∀ l a w, J l a w → (rest l).isSome = true)
    (first : c.wp P (jumps J Q) a w)
    (pass : ∀ l r a w, rest l = some r → J l a w → r.wp P (jumps (fun l' a' w' => J l' a' w' ∧ μ l' a' w' < μ l a w) Q) a w) : (Code.scope c).wp P Q a w := by
  intro b k cs
  have hg : ∀ l r, rest l = some r → gotoIn l (.inScope c :: k) = some (.code r :: .inScope c :: k) := fun l r h => by simp [gotoIn, hf l r h]
  have key : ∀ n l r a w, rest l = some r → μ l a w = n → J l a w → ∃ e a' w', Q e a' w' ∧ Arrives P (lone (b.at a (.code r :: .inScope c :: k)) cs w) b k cs e a' w' := by
    intro n
    induction n using Nat.strongRecOn with
    | _ n ih =>
      intro l r a w hr hn hj
      obtain ⟨e, a₁, w₁, hq, harr⟩ := pass l r a w hr hj b (.inScope c :: k) cs
      cases e with
      | normal => exact ⟨.normal, a₁, w₁, hq, Steps.trans harr (.one step_inScope)⟩
      | exit id => exact ⟨.exit id, a₁, w₁, hq, fun k' hk => harr k' (by simp [exitTo, hk])⟩
      | goto l' =>
        obtain ⟨hj', hlt⟩ : J l' a₁ w₁ ∧ μ l' a₁ w₁ < μ l a w := hq
        obtain ⟨r', hr'⟩ := Option.isSome_iff_exists.1 (hJ l' a₁ w₁ hj')
        obtain ⟨e₂, a₂, w₂, hq₂, harr₂⟩ := ih _ (by omega) l' r' a₁ w₁ hr' rfl hj'
        exact ⟨e₂, a₂, w₂, hq₂, .of_steps (harr _ (hg l' r' hr')) harr₂⟩
      | ret => exact ⟨_, a₁, w₁, hq, harr⟩
      | panic ch => exact ⟨_, a₁, w₁, hq, harr⟩
      | outgrown => exact ⟨_, a₁, w₁, hq, harr⟩
  obtain ⟨e, a₁, w₁, hq, harr⟩ := first b (.inScope c :: k) cs
  cases e with
  | normal => exact ⟨.normal, a₁, w₁, hq, .head step_scope (Steps.trans harr (.one step_inScope))⟩
  | exit id => exact ⟨.exit id, a₁, w₁, hq, fun k' hk => .head step_scope (harr k' (by simp [exitTo, hk]))⟩
  | goto l' =>
    have hj' : J l' a₁ w₁ := hq
    obtain ⟨r', hr'⟩ := Option.isSome_iff_exists.1 (hJ l' a₁ w₁ hj')
    obtain ⟨e₂, a₂, w₂, hq₂, harr₂⟩ := key _ l' r' a₁ w₁ hr' rfl hj'
    exact ⟨e₂, a₂, w₂, hq₂, .of_steps (.head step_scope (harr _ (hg l' r' hr'))) harr₂⟩
  | ret => exact ⟨_, a₁, w₁, hq, .of_steps (.one step_scope) harr⟩
  | panic ch => exact ⟨_, a₁, w₁, hq, .of_steps (.one step_scope) harr⟩
  | outgrown => exact ⟨_, a₁, w₁, hq, .of_steps (.one step_scope) harr⟩
end

attribute [go_sem] jumps_ret jumps_normal jumps_exit

/-- Where the name's entry stands. -/
def placeGo (n : ByteArray) : List Sl → Nat → Int
  | [], _ => -1
  | none :: r, i => placeGo n r (i + 1)
  | some e :: r, i => if e.1 = n then (i : Int) else placeGo n r (i + 1)
def placeA (s : List Sl) (n : ByteArray) : Int := placeGo n s 0

/-- The cells of the i-th sixteen bytes. -/
theorem ent_cell {w : World} {adk : Addr} {b : List Int} (h : Kd.C (Kd.int .u8) w (some adk) b.length b) (j : Nat) (hj : j < b.length) : w.cell? (adk.add j) = some (.int .u8 (b.getD j 0)) := by
  obtain ⟨ad, e, hx⟩ := Kd.at_int h (j : Int) (by omega) (by omega)
  cases e
  simpa [rd] using hx
theorem ent_slot {w w1 : World} {ad adk : Addr} {l0 : List Int} {s : List Sl} {c0 k : Nat} (HR : Kd.C (Kd.int .u8) w (some ad) l0.length l0) (hc0 : l0.length ≤ c0) (hB : Below w.heap.size w w1) (HL : l0 = bytesS s) (HS : AllOk s) (hk : k < s.length) (hadk : adk = ad.add (k * 16)) :
    Kd.C (Kd.int .u8) w1 (some adk) (slotB s[k]).length (slotB s[k]) := by
  have hlen : l0.length = 16 * s.length := by rw [HL]; exact bytesS_len HS
  have h := C_ent (i := k) (Kd.C_below HR hB) (by omega) hc0
  have e : entL l0 k = slotB s[k] := by rw [HL]; exact entL_bytes HS k hk
  rw [← hadk, e] at h
  exact h
theorem add_0 (a : Addr) : a.add 0 = a := by simp [Addr.add]
theorem add_1 (a : Addr) : a.add 1 = ⟨a.block, a.off + 1, none⟩ := by simp [Addr.add]
/-- What the walk reads of a free slot. -/
theorem cell_free {w : World} {adk : Addr} {o : Sl} (h : Kd.C (Kd.int .u8) w (some adk) (slotB o).length (slotB o)) (ho : o = none) : w.cell? adk = some (.int .u8 0) := by
  subst ho
  have := ent_cell h 0 (by decide)
  rw [add_0] at this
  exact this
/-- What the walk reads of an entry. -/
theorem cell_ent {w : World} {adk : Addr} {o : Sl} {x : ByteArray} {i : Int} (h : Kd.C (Kd.int .u8) w (some adk) (slotB o).length (slotB o)) (ho : o = some (x, i)) (hx : okE (x, i)) :
    w.cell? adk = some (.int .u8 (x.size : Int)) ∧ w.cell? ⟨adk.block, adk.off + 1, none⟩ = some (.int .u8 (La.bitsOf x.data.toList)) ∧ w.cell? ⟨adk.block, adk.off + 2, none⟩ = some (.int .u8 i) := by
  subst ho
  have hl : (slotB (some (x, i))).length = 16 := La.layL_len x i (okE.size hx).2
  have h0 := ent_cell h 0 (by omega)
  have h1 := ent_cell h 1 (by omega)
  have h2 := ent_cell h 2 (by omega)
  rw [add_0] at h0
  rw [add_1] at h1
  exact ⟨h0, h1, by rw [show adk.add 2 = ⟨adk.block, adk.off + 2, none⟩ by simp [Addr.add]] at h2; exact h2⟩
/-- The name of an entry, cut out. -/
theorem cut_ent {adk : Addr} {o : Sl} {x : ByteArray} {i : Int} {c : Nat} (ho : o = some (x, i)) (hx : okE (x, i)) (hc : 16 ≤ c) :
    ∃ adm : Addr, (∀ W : World, (Instr.slice 24 (.slice (some adk) 16 c) (some (.int .i64 3)) (some (.int .i64 (3 + (x.size : Int)))) none).run Try.prog W = .ok (.slice (some adm) x.size (c - 3)) W) ∧
      ∀ w : World, Kd.C (Kd.int .u8) w (some adk) (slotB o).length (slotB o) → (convert 24 9 (.slice (some adm) x.size (c - 3))).run Try.prog w = .ok (.string x) w := by
  subst ho
  have hs := okE.size hx
  simp only at hs
  have hl : (slotB (some (x, i))).length = 16 := La.layL_len x i hs.2
  obtain ⟨i0, hi, hz0, hz1, hz2⟩ := info_parts Rl.info_u8
  refine ⟨adk.add 3, fun W => ?_, fun w h => ?_⟩
  · have h := cut_mid (P := Try.prog) 24 5 .i64 .i64 Try.underlying24 hi 1 hz1 (some adk) 16 c 3 (3 + (x.size : Int)) (by omega) (by omega) (by omega) hc W
    have e1 : (3 + (x.size : Int)).toNat - (3 : Int).toNat = x.size := by omega
    rw [e1, if_neg (by omega)] at h
    exact h
  · have h1 := Kd.C_mid (lo := 3) (hi := 3 + x.size) (c := c) h (by omega) (by omega) (by omega)
    rw [if_neg (by omega)] at h1
    have e2 : ((slotB (some (x, i))).take (3 + x.size)).drop 3 = x.data.toList.map fun b => (b.toNat : Int) := layL_mid x i
    rw [e2] at h1
    have h2 := Kd.C_string (P := Try.prog) (c := c - 3) Try.underlying24 Try.underlying5 Try.underlying9 h1
    rw [str_of, List.length_map, ← Lib.size_eq] at h2
    exact h2
theorem placeGo_free {n : ByteArray} {s : List Sl} {k : Nat} (hk : k < s.length) (h : s[k] = none) : placeGo n (s.drop k) k = placeGo n (s.drop (k + 1)) (k + 1) := by
  rw [List.drop_eq_getElem_cons hk, h]; rfl
theorem placeGo_other {n : ByteArray} {s : List Sl} {k : Nat} {x : ByteArray} {i : Int} (hk : k < s.length) (h : s[k] = some (x, i)) (hx : x ≠ n) : placeGo n (s.drop k) k = placeGo n (s.drop (k + 1)) (k + 1) := by
  rw [List.drop_eq_getElem_cons hk, h]
  show (if x = n then (k : Int) else placeGo n (s.drop (k + 1)) (k + 1)) = _
  rw [if_neg hx]
theorem placeGo_hit {n : ByteArray} {s : List Sl} {k : Nat} {x : ByteArray} {i : Int} (hk : k < s.length) (h : s[k] = some (x, i)) (hx : x = n) : placeGo n (s.drop k) k = (k : Int) := by
  rw [List.drop_eq_getElem_cons hk, h]
  show (if x = n then (k : Int) else placeGo n (s.drop (k + 1)) (k + 1)) = _
  rw [if_pos hx]
theorem at_e (ad adk : Addr) (n c i : Nat) (hi : (i + 1) * 16 ≤ n) (hc : n ≤ c) (hn : n ≤ 100000) (hk : Hid (adk = ad.add (i * 16))) (w : World) :
    Calls Try.prog 36 #[.slice (some ad) n c, .int .i64 i] w fun e w' => e = .returned (.slice (some adk) 16 (c - i * 16)) ∧ w' = w := by
  rw [hk.out]; exact At.at_any ad n c i hi hc hn w

theorem wp_scope_one {P : Program} {c X : Code} {a : Act} {w : World} {Q : Exit → Act → World → Prop} (J : Nat → Act → World → Prop) (μ : Nat → Act → World → Nat)
    (h0 : findLabel c 0 = some (.seq .skip X)) (hJ : ∀ l a w, J l a w → l = 0)
    (pass : ∀ a w, J 0 a w → X.wp P (jumps (fun l' a' w' => J l' a' w' ∧ μ l' a' w' < μ 0 a w) Q) a w)
    (first : (∀ a w, J 0 a w → X.wp P (jumps J Q) a w) → c.wp P (jumps J Q) a w) : (Code.scope c).wp P Q a w := by
  refine wp_scope_many (fun l => if l = 0 then findLabel c l else none) J μ (fun l r h => by split at h <;> first | exact h | cases h) ?_ (first fun a w h => wp_mono (pass a w h) (jumps_imp fun _ _ _ h => h.1)) ?_
  · intro l a w h
    have := hJ l a w h
    subst this
    simp [h0]
  · intro l r a w hr h
    have := hJ l a w h
    subst this
    simp [h0] at hr
    subst hr
    exact wp_seq (wp_skip (pass a w h))

/-- At the label. -/
def J (A0 : Option Addr) (c0 : Nat) (l0 : List Int) (n : ByteArray) (s : List Sl) (w0 : World) (l : Nat) (a : Act) (w : World) : Prop :=
  l = 0 ∧ ∃ (k : Nat) (u2 u3 u7 u8 u9 u10 u11 u12 u13 u14 u15 u16 u17 u18 u19 u20 u21 u22 u23 u24 u25 u26 u27 u28 u29 u30 u31 u32 u33 u34 u35 u36 u37 u38 u39 u40 u41 u42 u43 : Value), a = { tmps := List.toArray (Value.slice A0 l0.length c0 :: Value.string n :: u2 :: u3 :: Value.int .i64 0 :: Value.int .i64 (k : Int) :: Value.int .u8 (La.bitsOf n.data.toList) :: u7 :: u8 :: u9 :: u10 :: u11 :: u12 :: u13 :: u14 :: u15 :: u16 :: u17 :: u18 :: u19 :: u20 :: u21 :: u22 :: u23 :: u24 :: u25 :: u26 :: u27 :: u28 :: u29 :: u30 :: u31 :: u32 :: u33 :: u34 :: u35 :: u36 :: u37 :: u38 :: u39 :: u40 :: u41 :: u42 :: u43 :: []), defers := [] } ∧
    k ≤ s.length ∧ placeGo n (s.drop k) k = placeA s n ∧ Below w0.heap.size w0 w
theorem J.mk {A0 : Option Addr} {c0 : Nat} {l0 : List Int} {n : ByteArray} {s : List Sl} {w0 w : World} {k : Nat} {u2 u3 u7 u8 u9 u10 u11 u12 u13 u14 u15 u16 u17 u18 u19 u20 u21 u22 u23 u24 u25 u26 u27 u28 u29 u30 u31 u32 u33 u34 u35 u36 u37 u38 u39 u40 u41 u42 u43 : Value} (hk : k ≤ s.length) (hP : Hid (placeGo n (s.drop k) k = placeA s n)) (hB : Hid (Below w0.heap.size w0 w)) : J A0 c0 l0 n s w0 0 { tmps := List.toArray (Value.slice A0 l0.length c0 :: Value.string n :: u2 :: u3 :: Value.int .i64 0 :: Value.int .i64 (k : Int) :: Value.int .u8 (La.bitsOf n.data.toList) :: u7 :: u8 :: u9 :: u10 :: u11 :: u12 :: u13 :: u14 :: u15 :: u16 :: u17 :: u18 :: u19 :: u20 :: u21 :: u22 :: u23 :: u24 :: u25 :: u26 :: u27 :: u28 :: u29 :: u30 :: u31 :: u32 :: u33 :: u34 :: u35 :: u36 :: u37 :: u38 :: u39 :: u40 :: u41 :: u42 :: u43 :: []), defers := [] } w :=
  ⟨rfl, k, u2, u3, u7, u8, u9, u10, u11, u12, u13, u14, u15, u16, u17, u18, u19, u20, u21, u22, u23, u24, u25, u26, u27, u28, u29, u30, u31, u32, u33, u34, u35, u36, u37, u38, u39, u40, u41, u42, u43, rfl, hk, hP.out, hB.out⟩
/-- What a pass lowers. -/
def μ (s : List Sl) (_ : Nat) (a : Act) (_ : World) : Nat := s.length - (intOf (a.tmps.getD 5 undef)).toNat
theorem mu_at {A0 : Option Addr} {c0 : Nat} {l0 : List Int} {n : ByteArray} {s : List Sl} {l : Nat} {w : World} {k : Nat} {u2 u3 u7 u8 u9 u10 u11 u12 u13 u14 u15 u16 u17 u18 u19 u20 u21 u22 u23 u24 u25 u26 u27 u28 u29 u30 u31 u32 u33 u34 u35 u36 u37 u38 u39 u40 u41 u42 u43 : Value} : μ s l { tmps := List.toArray (Value.slice A0 l0.length c0 :: Value.string n :: u2 :: u3 :: Value.int .i64 0 :: Value.int .i64 (k : Int) :: Value.int .u8 (La.bitsOf n.data.toList) :: u7 :: u8 :: u9 :: u10 :: u11 :: u12 :: u13 :: u14 :: u15 :: u16 :: u17 :: u18 :: u19 :: u20 :: u21 :: u22 :: u23 :: u24 :: u25 :: u26 :: u27 :: u28 :: u29 :: u30 :: u31 :: u32 :: u33 :: u34 :: u35 :: u36 :: u37 :: u38 :: u39 :: u40 :: u41 :: u42 :: u43 :: []), defers := [] } w = s.length - k := rfl

set_option maxHeartbeats 8000000 in
set_option maxRecDepth 100000 in
theorem place_any (A0 : Option Addr) (c0 : Nat) (l0 : List Int) (n : ByteArray) (s : List Sl) (w : World) (hn : n.size ≤ maxLen) (hs : AllOk s) (hl : s.length ≤ 240) (hb : l0 = bytesS s) (hr0 : Kd.C (Kd.int .u8) w A0 l0.length l0) (hc0 : l0.length ≤ c0) :
    Calls Try.prog 35 #[.slice A0 l0.length c0, .string n] w fun e w' => e = .returned (.int .i64 (placeA s n)) ∧ Below w.heap.size w w' := by
  have HR := Lib.hid hr0
  have HS := Lib.hid hs
  have HL := Lib.hid hb
  have hlen : Hid (l0.length = 16 * s.length) := Lib.hid (by rw [hb]; exact bytesS_len hs)
  have hl0 : l0.length ≤ 3840 := by have := hlen.out; omega
  clear hr0 hs hb
  go_enter Try.func35, Try.ntmps35
  go_wp2_with fail
  refine wp_scope_one (J A0 c0 l0 n s w) (μ s) rfl (fun _ _ _ h => h.1) ?_ ?_
  · rintro a w1 ⟨-, k, u2, u3, u7, u8, u9, u10, u11, u12, u13, u14, u15, u16, u17, u18, u19, u20, u21, u22, u23, u24, u25, u26, u27, u28, u29, u30, u31, u32, u33, u34, u35, u36, u37, u38, u39, u40, u41, u42, u43, rfl, hk, hP, hB⟩
    replace hP := Lib.hid hP
    replace hB := Lib.hid hB
    rw [mu_at]
    by_cases hlt : k < s.length
    · have c1 : ((k : Int) == (l0.length : Int) / 16) = false := beq_eq_false_iff_ne.2 (by have := hlen.out; omega)
      obtain ⟨ad, rfl⟩ : ∃ ad, A0 = some ad := by obtain ⟨ad, e, _⟩ := HR.out.2.2 (by have := hlen.out; omega); exact ⟨ad, e⟩
      obtain ⟨adk, hadk⟩ : ∃ a, a = ad.add (k * 16) := ⟨_, rfl⟩
      replace hadk := Lib.hid hadk
      have hC := ent_slot HR.out hc0 hB.out HL.out HS.out hlt hadk.out
      cases hsk : s[k] with
      | none =>
        have g0 := cell_free hC hsk
        have hN : Hid (placeGo n (s.drop (k + 1)) (k + 1) = placeA s n) := Lib.hid ((placeGo_free hlt hsk).symm.trans hP.out)
        clear hC hsk hP
        go_wp2_with fail
        refine (at_e ad adk l0.length c0 k (by have := hlen.out; omega) hc0 (by have := hlen.out; omega) hadk _).mono ?_
        rintro e w2 ⟨rfl, hw⟩
        subst hw
        go_wp2_with fail
        apply wp_goto
        refine ⟨J.mk (k := k + 1) (by omega) hN hB, ?_⟩
        refine Nat.lt_of_le_of_lt (Nat.le_of_eq (mu_at (k := k + 1))) ?_
        omega
      | some e =>
        obtain ⟨x, i⟩ := e
        have hok : okE (x, i) := HS.out _ (by rw [← hsk]; exact List.getElem_mem hlt)
        have hxs := okE.size hok
        simp only at hxs
        obtain ⟨hx1, hx2⟩ := hxs
        obtain ⟨g0, g1, -⟩ := cell_ent hC hsk hok
        have t0 : ((x.size : Int) == 0) = false := beq_eq_false_iff_ne.2 (by omega)
        by_cases hbits : La.bitsOf x.data.toList = La.bitsOf n.data.toList
        · have t1 : (La.bitsOf x.data.toList != La.bitsOf n.data.toList) = false := by rw [bne_eq_false_iff_eq]; exact hbits
          obtain ⟨adm, hcut, hconv⟩ := cut_ent (adk := adk) (c := c0 - k * 16) hsk hok (by have := hlen.out; omega)
          replace hconv := hconv _ hC
          by_cases hxn : x = n
          · have t2 : (x.toList == n.toList) = true := by rw [beq_iff_eq, hxn]
            have hE : Hid (placeA s n = (k : Int)) := Lib.hid (hP.out.symm.trans (placeGo_hit hlt hsk hxn))
            clear hC hsk hP hbits hok hxn
            go_wp2_with fail
            refine (at_e ad adk l0.length c0 k (by have := hlen.out; omega) hc0 (by have := hlen.out; omega) hadk _).mono ?_
            rintro e w2 ⟨rfl, hw⟩
            subst hw
            go_wp2_with fail
            rw [jumps_ret]
            go_ret
            exact ⟨by rw [hE.out]; rfl, hB.out⟩
          · have t2 : (x.toList == n.toList) = false := by rw [beq_eq_false_iff_ne]; intro h; rw [Lib.toList_data, Lib.toList_data] at h; exact hxn (ba_ext h)
            have hN : Hid (placeGo n (s.drop (k + 1)) (k + 1) = placeA s n) := Lib.hid ((placeGo_other hlt hsk hxn).symm.trans hP.out)
            clear hC hsk hP hbits hok hxn
            go_wp2_with fail
            refine (at_e ad adk l0.length c0 k (by have := hlen.out; omega) hc0 (by have := hlen.out; omega) hadk _).mono ?_
            rintro e w2 ⟨rfl, hw⟩
            subst hw
            go_wp2_with fail
            apply wp_goto
            refine ⟨J.mk (k := k + 1) (by omega) hN hB, ?_⟩
            refine Nat.lt_of_le_of_lt (Nat.le_of_eq (mu_at (k := k + 1))) ?_
            omega
        · have t1 : (La.bitsOf x.data.toList != La.bitsOf n.data.toList) = true := by rw [bne_iff_ne]; exact hbits
          have hN : Hid (placeGo n (s.drop (k + 1)) (k + 1) = placeA s n) := Lib.hid ((placeGo_other hlt hsk (fun h => hbits (by rw [h]))).symm.trans hP.out)
          clear hC hsk hP hbits hok
          go_wp2_with fail
          refine (at_e ad adk l0.length c0 k (by have := hlen.out; omega) hc0 (by have := hlen.out; omega) hadk _).mono ?_
          rintro e w2 ⟨rfl, hw⟩
          subst hw
          go_wp2_with fail
          apply wp_goto
          refine ⟨J.mk (k := k + 1) (by omega) hN hB, ?_⟩
          refine Nat.lt_of_le_of_lt (Nat.le_of_eq (mu_at (k := k + 1))) ?_
          omega
    · obtain rfl : k = s.length := by omega
      have c1 : ((s.length : Int) == (l0.length : Int) / 16) = true := beq_iff_eq.2 (by have := hlen.out; omega)
      have hE : Hid (placeA s n = -1) := Lib.hid (by rw [← hP.out, List.drop_length]; rfl)
      clear hP
      go_wp2_with fail
      rw [jumps_ret]
      go_ret
      exact ⟨by rw [hE.out]; rfl, hB.out⟩
  · intro pass
    go_wp2_with fail
    refine (La.bits_any n hn _).mono ?_
    rintro e w1 ⟨rfl, hb⟩
    have hB := Lib.hid hb
    clear hb
    go_wp2_with fail
    apply wp_label
    rename_i K hK
    refine hK _ _ ?_
    clear hK
    exact pass _ _ (J.mk (k := 0) (Nat.zero_le _) (Lib.hid rfl) hB)
end Go.Proofs.Ytinfjmdcmfpdiaa.Pc

/- What entry.Find, Add and Remove answer, in slots. No walk. -/
namespace Go.Proofs.Ytinfjmdcmfpdiaa.Md
open Go.RowKit Go.Proofs.Ytinfjmdcmfpdiaa.Rt Go.Proofs.Ytinfjmdcmfpdiaa.Pc Go.Proofs.YtinfjmdcmfpdiaaW.PrintWords Go.Proofs.YtinfjmdcmfpdiaaW.PrintLast Go.Proofs.YtinfjmdcmfpdiaaW.PrintMore

/-- A name's inode. -/
def findGo (n : ByteArray) : List Sl → Option Int
  | [] => none
  | none :: r => findGo n r
  | some e :: r => if e.1 = n then some e.2 else findGo n r
def findR : Option Int → Int × Bool
  | none => (0, false)
  | some i => (i, true)
def findA (l : List Int) (n : ByteArray) : Int × Bool := match dirO l with | none => (0, false) | some s => findR (findGo n s)

theorem place_go (n : ByteArray) (s : List Sl) : ∀ k : Nat, (placeGo n s k = -1 ∧ findGo n s = none ∧ n ∉ names s) ∨ ∃ (j : Nat) (i : Int) (hj : j < s.length), placeGo n s k = ((k + j : Nat) : Int) ∧ s[j] = some (n, i) ∧ findGo n s = some i := by
  induction s with
  | nil => intro k; left; exact ⟨rfl, rfl, by simp [names]⟩
  | cons o r ih =>
    intro k
    cases o with
    | none =>
      rcases ih (k + 1) with ⟨h1, h2, h3⟩ | ⟨j, i, hj, h1, h2, h3⟩
      · left; exact ⟨h1, h2, by simpa [names] using h3⟩
      · right; exact ⟨j + 1, i, by simp; omega, by show placeGo n r (k + 1) = _; rw [h1]; congr 1; omega, by simpa using h2, h3⟩
    | some e =>
      by_cases he : e.1 = n
      · right
        refine ⟨0, e.2, by simp, ?_, ?_, ?_⟩
        · show (if e.1 = n then (k : Int) else placeGo n r (k + 1)) = _
          rw [if_pos he]; rfl
        · show some e = _
          rw [← he]
        · show (if e.1 = n then some e.2 else findGo n r) = _
          rw [if_pos he]
      · have e1 : placeGo n (some e :: r) k = placeGo n r (k + 1) := by show (if e.1 = n then (k : Int) else placeGo n r (k + 1)) = _; rw [if_neg he]
        have e2 : findGo n (some e :: r) = findGo n r := by show (if e.1 = n then some e.2 else findGo n r) = _; rw [if_neg he]
        have e3 : names (some e :: r) = e.1 :: names r := by simp [names]
        rw [e1, e2, e3]
        rcases ih (k + 1) with ⟨h1, h2, h3⟩ | ⟨j, i, hj, h1, h2, h3⟩
        · left; exact ⟨h1, h2, by rw [List.mem_cons]; rintro (h | h); exact he h.symm; exact h3 h⟩
        · right; exact ⟨j + 1, i, by simp; omega, by rw [h1]; congr 1; omega, by simpa using h2, h3⟩
theorem place_cases (n : ByteArray) (s : List Sl) : (placeA s n = -1 ∧ findGo n s = none ∧ n ∉ names s) ∨ ∃ (j : Nat) (i : Int) (hj : j < s.length), placeA s n = (j : Int) ∧ s[j] = some (n, i) ∧ findGo n s = some i := by
  rcases place_go n s 0 with h | ⟨j, i, hj, h1, h2, h3⟩
  · exact .inl h
  · exact .inr ⟨j, i, hj, by unfold placeA; rw [h1]; congr 1; omega, h2, h3⟩

/-- The first free slot, from the k-th on. -/
def freeGo : List Sl → Nat → Option Nat
  | [], _ => none
  | none :: _, k => some k
  | some _ :: r, k => freeGo r (k + 1)
def fillS (s : List Sl) (e : ByteArray × Int) : Option Nat → List Int × Int
  | some k => (bytesS (s.set k (some e)), 0)
  | none => if s.length < 240 then (bytesS (s ++ [some e]), 0) else ([], 5)
def addS (s : List Sl) (n : ByteArray) (ino : Int) : List Int × Int :=
  if (La.layA n ino).2 = 0 then (if 0 ≤ placeA s n then ([], 3) else fillS s (n, ino) (freeGo s 0)) else ([], (La.layA n ino).2)
def addA (l : List Int) (n : ByteArray) (ino : Int) : List Int × Int := match dirO l with | none => ([], 121) | some s => addS s n ino

/-- The first k slots, without the free ones at their end. -/
def trimGo (t : List Sl) : Nat → List Sl
  | 0 => []
  | k + 1 => if t[k]? = some none then trimGo t k else t.take (k + 1)
def trim (t : List Sl) : List Sl := trimGo t t.length
def removeS (s : List Sl) (n : ByteArray) : List Int × Int := if 0 ≤ placeA s n then (bytesS (trim (s.set (placeA s n).toNat none)), 0) else ([], 2)
def removeA (l : List Int) (n : ByteArray) : List Int × Int := match dirO l with | none => ([], 121) | some s => removeS s n

theorem freeGo_drop_none {s : List Sl} {k : Nat} (hk : k < s.length) (h : s[k] = none) : freeGo (s.drop k) k = some k := by
  rw [List.drop_eq_getElem_cons hk, h]; rfl
theorem freeGo_drop_some {s : List Sl} {k : Nat} {e : ByteArray × Int} (hk : k < s.length) (h : s[k] = some e) : freeGo (s.drop k) k = freeGo (s.drop (k + 1)) (k + 1) := by
  rw [List.drop_eq_getElem_cons hk, h]; rfl
theorem AllOk.set {s : List Sl} (hs : AllOk s) (k : Nat) {o : Sl} (ho : ∀ e, o = some e → okE e) : AllOk (s.set k o) := by
  intro e he
  rcases List.mem_or_eq_of_mem_set he with h | h
  · exact hs e h
  · exact ho e h.symm
theorem AllOk.take {s : List Sl} (hs : AllOk s) (k : Nat) : AllOk (s.take k) := fun e he => hs e (List.mem_of_mem_take he)
/-- A slot's bytes laid over the old ones. -/
theorem bytesS_set {s : List Sl} (hs : AllOk s) {k : Nat} (hk : k < s.length) {o : Sl} (ho : (slotB o).length = 16) :
    (bytesS s).take (16 * k) ++ slotB o ++ (bytesS s).drop (16 * k + (slotB o).length) = bytesS (s.set k o) := by
  have e : s = s.take k ++ s[k] :: s.drop (k + 1) := by rw [← List.drop_eq_getElem_cons hk, List.take_append_drop]
  have hl : (bytesS (s.take k)).length = 16 * k := by rw [bytesS_len (hs.take k), List.length_take]; omega
  have hm : (slotB s[k]).length = 16 := slotB_len hs (List.getElem_mem hk)
  have e2 : bytesS s = bytesS (s.take k) ++ (slotB s[k] ++ bytesS (s.drop (k + 1))) := by
    conv => lhs; rw [e]
    rw [bytesS_append, bytesS_cons]
  have h1 : (bytesS s).take (16 * k) = bytesS (s.take k) := by
    rw [e2, List.take_append_of_le_length (by omega), List.take_of_length_le (by omega)]
  have h2 : (bytesS s).drop (16 * k + (slotB o).length) = bytesS (s.drop (k + 1)) := by
    rw [e2, ho, ← List.append_assoc, List.drop_append_of_le_length (by rw [List.length_append]; omega), List.drop_of_length_le (by rw [List.length_append]; omega), List.nil_append]
  have h3 : s.set k o = s.take k ++ o :: s.drop (k + 1) := by
    conv => lhs; rw [e]
    rw [List.set_append_right _ _ (by rw [List.length_take]; omega)]
    have : k - (s.take k).length = 0 := by rw [List.length_take]; omega
    rw [this]; rfl
  rw [h1, h2, h3, bytesS_append, bytesS_cons, List.append_assoc]
theorem bytesS_take {s : List Sl} (hs : AllOk s) {k : Nat} (hk : k ≤ s.length) : (bytesS s).take (16 * k) = bytesS (s.take k) := by
  have hl : (bytesS (s.take k)).length = 16 * k := by rw [bytesS_len (hs.take k), List.length_take]; omega
  have e2 : bytesS s = bytesS (s.take k) ++ bytesS (s.drop k) := by rw [← bytesS_append, List.take_append_drop]
  rw [e2, List.take_append_of_le_length (by omega), List.take_of_length_le (by omega)]
end Go.Proofs.Ytinfjmdcmfpdiaa.Md
