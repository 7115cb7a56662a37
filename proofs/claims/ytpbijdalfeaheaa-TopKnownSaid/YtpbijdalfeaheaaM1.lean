/- Walks and plain laws on which the claim stands, several texts joined. -/
import Derived.Test.YtpbijdalfeaheaaProg
import Derived.Below
import Derived.Deep.Draws
import Derived.Deep.AppendLies
import Derived.Maps.AppendAt
import Derived.OwnWalk
import Derived.Laws.BytesArg
import Derived.Laws.MakeOwn
import Derived.Laws.OwnMore
import Derived.Deep.OwnRows
import Derived.Tactics
import Derived.Lib.ConvBytes
import Derived.Laws.Slices
import Derived.WalkKit
import Derived.KernelRfl
import Derived.RowKit3
import Derived.Deep.LoopGhost
import Derived.Deep.QuietTactic
import Derived.BigQuiet
import Derived.WideLaws
import Derived.Deep.DeepCutAuto
import Derived.Deep.CutBlock
import Derived.Deep.RegionHeld3
import Derived.Laws.Rows
import Derived.Lib.AppendStr
import Derived.ArgAppend
import Derived.Laws.IdiomCopy
import Derived.OrdersHeld
import Derived.Laws.BitsLemmas
import Derived.RowKit
import Derived.Test.YtpbijdalfeaheaaWWords
import Derived.Test.YtpbijdalfeaheaaWLast
import Derived.Test.YtpbijdalfeaheaaWTab
import Derived.Test.YtpbijdalfeaheaaWFour
import Derived.Test.YtpbijdalfeaheaaWQPut
import Derived.Test.YtpbijdalfeaheaaWApart
import Derived.Test.YtpbijdalfeaheaaWArr
import Derived.Test.YtpbijdalfeaheaaWZeros
import Derived.Test.YtpbijdalfeaheaaWFoot
import Derived.Test.YtpbijdalfeaheaaWKept
import Derived.Test.YtpbijdalfeaheaaWShare
import Derived.Test.YtpbijdalfeaheaaWN
import Derived.Test.YtpbijdalfeaheaaWFootNe
import Derived.Test.YtpbijdalfeaheaaWAt
import Derived.Test.YtpbijdalfeaheaaWEqStruct
import Derived.Test.YtpbijdalfeaheaaWRepsOne
import Derived.Test.YtpbijdalfeaheaaWInv
import Derived.Test.YtpbijdalfeaheaaWInvWords
import Derived.Test.YtpbijdalfeaheaaWGuard
import Derived.Test.YtpbijdalfeaheaaWNEv
import Derived.Test.YtpbijdalfeaheaaWMore
import Derived.Lib.Hide
import Derived.LoopTactic
import Derived.Laws.CopyOwn
import Derived.Scope

/- Contracts of functions that the statements reach: each call's answer as a plain Lean function. Printed by a program of this session (over the kit's print) out of the translation; Lean checks it. -/
namespace Go.Proofs.Ytpbijdalfeaheaa.P
open Go.RowKit Go.Proofs.YtpbijdalfeaheaaW.PrintWords Go.Proofs.YtpbijdalfeaheaaW.PrintLast Go.Proofs.YtpbijdalfeaheaaW.PrintMore
attribute [local go_sem] max2_int min2_int max_two min_two max_three min_three max_four min_four   -- for this text's walks alone
set_option linter.unusedVariables false
set_option linter.unusedSimpArgs false



def errW : Option Int → Value
  | none => .nilIface
  | some c => .iface 0 (.int .i64 c)
theorem errW_none : errW none = .nilIface := rfl
theorem errW_some (c : Int) : errW (some c) = .iface 0 (.int .i64 c) := rfl

theorem info5 : (Try.prog.info? 5).map (fun i => (i.zero, i.size, i.bytes)) = some (some (.int .u8 0), 1, 1) := by kernel_rfl
-- the values' own types

end Go.Proofs.Ytpbijdalfeaheaa.P

/- Contracts of functions that the statements reach: each call's answer as a plain Lean function. Printed by a program of this session (over the kit's print) out of the translation; Lean checks it. -/
namespace Go.Proofs.Ytpbijdalfeaheaa.P
open Go.RowKit Go.Proofs.YtpbijdalfeaheaaW.PrintWords Go.Proofs.YtpbijdalfeaheaaW.PrintLast Go.Proofs.YtpbijdalfeaheaaW.PrintMore
attribute [local go_sem] max2_int min2_int max_two min_two max_three min_three max_four min_four   -- for this text's walks alone
set_option linter.unusedVariables false
set_option linter.unusedSimpArgs false

/-! ### field_get: function 55 -/
def field_get.l0 : Nat → List Int → Int → Int → Int → Option (Int)
  | 0, _, _, _, _ => none
  | k + 1, x0, x3, x6, x7 => if x7 < x6 then (if 0 ≤ x7 then (if x7 < (x0.length : Int) then (if 0 ≤ (wrap64 (8 * x7)) then (field_get.l0 k x0 (Go.bits .or .u64 x3 (shl .u64 (IntKind.u64.wrap (rd x0 x7)) (wrap64 (8 * x7)))) x6 (wrap64 (x7 + 1))) else (none)) else (none)) else (none)) else (some x3)
def field_get.f (k : Nat) (l0 : List Int) : Option (Int) := field_get.l0 k l0 0 (l0.length : Int) 0
theorem field_get.mono_l : ∀ k, (∀ y0 y1 y2 y3, LeO (field_get.l0 k y0 y1 y2 y3) (field_get.l0 (k + 1) y0 y1 y2 y3))
  | 0 => fun _ _ _ _ r h => by simp [field_get.l0] at h
  | k + 1 => by
    have ih0 := field_get.mono_l k
    · intro y0 y1 y2 y3
      unfold field_get.l0
      repeat' first
      | (with_reducible exact ih0 _ _ _ _)
      | (with_reducible exact LeO.refl _)
      | (with_reducible exact LeO.none _)
      | (with_reducible refine LeO.ite ?_ ?_)
      | (with_reducible refine LeO.bind ?_ (fun _ => ?_))
      | exact ih0 _ _ _ _
      | exact LeO.none _
      | refine LeO.ite ?_ ?_
      | refine LeO.bind ?_ (fun _ => ?_)
theorem field_get.mono : ∀ a0 k, LeO (field_get.f k a0) (field_get.f (k + 1) a0) := by
  intro a0 k
  have ih0 := field_get.mono_l k
  unfold field_get.f
  repeat' first
      | (with_reducible exact ih0 _ _ _ _)
      | (with_reducible exact LeO.refl _)
      | (with_reducible exact LeO.none _)
      | (with_reducible refine LeO.ite ?_ ?_)
      | (with_reducible refine LeO.bind ?_ (fun _ => ?_))
      | exact ih0 _ _ _ _
      | exact LeO.none _
      | refine LeO.ite ?_ ?_
      | refine LeO.bind ?_ (fun _ => ?_)
set_option maxHeartbeats 8000000 in
set_option maxRecDepth 100000 in
theorem field_get.calls (k : Nat) (A0 : Option Addr) (c0 : Nat) (l0 : List Int) (r : Int) (w : World) (hr0 : Kd.C (Kd.int .u8) w A0 l0.length l0) (hc0 : l0.length ≤ c0) (h : field_get.f k l0 = some r) :
    Calls Try.prog 55 #[.slice A0 l0.length c0] w fun e w' => e = .returned (.int .u64 r) ∧ Drawn0 w w' := by
  have HR0 := Aside0.mk hr0
  have HC0 := Aside0.mk hc0
  clear hr0 hc0
  have H : (field_get.l0 k l0 0 (l0.length : Int) 0) = some r := h
  clear h
  have H' := Aside0.mk H
  clear H
  go_enter Try.func55, Try.ntmps55
  go_wp2
  go_loopg [3, 7] k (fun kq v3 v7 w' => ∃ (x3_1 : Int) (x7_1 : Int), v3 = .int .u64 x3_1 ∧ v7 = .int .i64 x7_1 ∧ Aside0 (field_get.l0 kq l0 x3_1 (l0.length : Int) x7_1 = some r) ∧ Aside0 (kq ≤ k) ∧ Drawn0 w w')
  case atStart => exact ⟨(0), (0), (by first | rfl | (simp; done) | (simp [*]; done)), (by first | rfl | (simp; done) | (simp [*]; done)), H', ⟨Nat.le_refl _⟩, by repeat (first | exact Drawn0.refl _ | apply Drawn0.step)⟩
  case round =>
    clear H'
    obtain ⟨x3_1, x7_1, rfl, rfl, HA, HK1, ⟨m1, rfl⟩⟩ := hrel
    cases gk with
    | zero => exact absurd HA.out (by simp [field_get.l0])
    | succ k1 =>
      have H := HA.out
      clear HA
      simp only [field_get.l0] at H
      by_cases c2 : x7_1 < (l0.length : Int)
      · rw [if_pos c2] at H
        have c2b0 : decide (x7_1 < (l0.length : Int)) = true := decide_eq_true c2
        clear c2
        by_cases c3 : 0 ≤ x7_1
        · rw [if_pos c3] at H
          have c3b0 : decide (0 ≤ x7_1) = true := decide_eq_true c3
          clear c3
          by_cases c4 : x7_1 < (l0.length : Int)
          · rw [if_pos c4] at H
            have c4b0 : decide (x7_1 < (l0.length : Int)) = true := decide_eq_true c4
            clear c4
            obtain ⟨ji5, hji5⟩ : ∃ j_ : Int, (wrap64 (8 * x7_1)) = j_ := ⟨_, rfl⟩
            replace H : (if 0 ≤ (ji5) then (field_get.l0 k1 l0 (Go.bits .or .u64 x3_1 (shl .u64 (IntKind.u64.wrap (rd l0 x7_1)) (ji5))) (l0.length : Int) (wrap64 (x7_1 + 1))) else (none)) = some r := by first | (rw [hji5] at H; exact H) | (simp only [hji5] at H ⊢; exact H)
            have hji5w : (IntKind.i64.wrap (8 * x7_1)) = ji5 := (i64_w _).trans hji5
            by_cases c6 : 0 ≤ (ji5)
            · rw [if_pos c6] at H
              have c6b0 := eq_true c6
              have c6b1 : decide (0 ≤ (ji5)) = true := decide_eq_true c6
              clear c6
              obtain ⟨ji7, hji7⟩ : ∃ j_ : Int, (shl .u64 (IntKind.u64.wrap (rd l0 x7_1)) (ji5)) = j_ := ⟨_, rfl⟩
              replace H : (field_get.l0 k1 l0 (Go.bits .or .u64 x3_1 (ji7)) (l0.length : Int) (wrap64 (x7_1 + 1))) = some r := by first | (rw [hji7] at H; exact H) | (simp only [hji7] at H ⊢; exact H)
              have hji7_ : (IntKind.u64.wrap ((IntKind.u64.wrap (rd l0 x7_1)) * 2 ^ min (ji5).toNat 64)) = ji7 := hji7
              have hji7z : (ji5) ≤ 64 → (IntKind.u64.wrap ((IntKind.u64.wrap (rd l0 x7_1)) * 2 ^ (ji5).toNat)) = ji7 := shl_small hji7
              have H' := Aside0.mk H
              clear H
              have p101 : 0 ≤ (x7_1 : Int) := of_decide_eq_true (by first | (with_reducible assumption) | assumption)
              have q101 : x7_1 < (l0.length : Int) := of_decide_eq_true (by first | (with_reducible assumption) | assumption)
              obtain ⟨ad101, e101, hx101_0⟩ := Kd.at_int HR0.out x7_1 p101 q101
              cases e101
              replace p101 := eq_true p101
              replace q101 := eq_true q101
              go_wp2
              go_roundg k1
              case measure => have := HK1.out; omega
              case rel => exact ⟨(Go.bits .or .u64 x3_1 (ji7)), (wrap64 (x7_1 + 1)), (by first | rfl | (simp; done) | (simp only [← hji7] <;> (first | rfl | simp)) | (simp [*]; done)), (by first | rfl | (simp; done) | (simp [*]; done)), H', ⟨by have := HK1.out; omega⟩, by repeat (first | exact Drawn0.refl _ | apply Drawn0.step)⟩
            · rw [if_neg c6] at H
              exact absurd H (by simp)
          · rw [if_neg c4] at H
            exact absurd H (by simp)
        · rw [if_neg c3] at H
          exact absurd H (by simp)
      · rw [if_neg c2] at H
        have c2b0 : decide (x7_1 < (l0.length : Int)) = false := decide_eq_false c2
        clear c2
        obtain rfl := Option.some.inj H
        go_wp2
        go_ret
        exact ⟨by first | rfl | (simp; done) | (simp [*]; done), by repeat (first | exact Drawn0.refl _ | apply Drawn0.step)⟩

/-! ### field_stands: function 57 -/
def field_stands.f (a0 : Int) (a1 : Int) (a2 : Int) : Option (Bool) := if 1 ≤ a2 then (if a2 ≤ 8 then (if 0 ≤ a1 then (if a1 ≤ a0 then (some (decide (a2 ≤ (wrap64 (a0 - a1))))) else (some false)) else (some false)) else (some false)) else (some false)
set_option maxHeartbeats 8000000 in
set_option maxRecDepth 100000 in
theorem field_stands.calls (a0 : Int) (a1 : Int) (a2 : Int) (r : Bool) (w : World) (h : field_stands.f a0 a1 a2 = some r) :
    Calls Try.prog 57 #[.int .i64 a0, .int .i64 a1, .int .i64 a2] w fun e w' => e = .returned (.bool r) ∧ Drawn0 w w' := by
  have H : (if 1 ≤ a2 then (if a2 ≤ 8 then (if 0 ≤ a1 then (if a1 ≤ a0 then (some (decide (a2 ≤ (wrap64 (a0 - a1))))) else (some false)) else (some false)) else (some false)) else (some false)) = some r := h
  clear h
  by_cases c4 : 1 ≤ a2
  · rw [if_pos c4] at H
    have c4b0 : decide (1 ≤ a2) = true := decide_eq_true c4
    clear c4
    by_cases c5 : a2 ≤ 8
    · rw [if_pos c5] at H
      have c5b0 : decide (a2 ≤ 8) = true := decide_eq_true c5
      clear c5
      by_cases c6 : 0 ≤ a1
      · rw [if_pos c6] at H
        have c6b0 : decide (0 ≤ a1) = true := decide_eq_true c6
        clear c6
        by_cases c7 : a1 ≤ a0
        · rw [if_pos c7] at H
          have c7b0 : decide (a1 ≤ a0) = true := decide_eq_true c7
          clear c7
          obtain rfl := Option.some.inj H
          go_enter Try.func57, Try.ntmps57
          go_wp2
          go_ret
          exact ⟨by first | rfl | (simp; done) | (simp [*]; done), by repeat (first | exact Drawn0.refl _ | apply Drawn0.step)⟩
        · rw [if_neg c7] at H
          have c7b0 : decide (a1 ≤ a0) = false := decide_eq_false c7
          clear c7
          obtain rfl := Option.some.inj H
          go_enter Try.func57, Try.ntmps57
          go_wp2
          go_ret
          exact ⟨by first | rfl | (simp; done) | (simp [*]; done), by repeat (first | exact Drawn0.refl _ | apply Drawn0.step)⟩
      · rw [if_neg c6] at H
        have c6b0 : decide (0 ≤ a1) = false := decide_eq_false c6
        clear c6
        obtain rfl := Option.some.inj H
        go_enter Try.func57, Try.ntmps57
        go_wp2
        go_ret
        exact ⟨by first | rfl | (simp; done) | (simp [*]; done), by repeat (first | exact Drawn0.refl _ | apply Drawn0.step)⟩
    · rw [if_neg c5] at H
      have c5b0 : decide (a2 ≤ 8) = false := decide_eq_false c5
      clear c5
      obtain rfl := Option.some.inj H
      go_enter Try.func57, Try.ntmps57
      go_wp2
      go_ret
      exact ⟨by first | rfl | (simp; done) | (simp [*]; done), by repeat (first | exact Drawn0.refl _ | apply Drawn0.step)⟩
  · rw [if_neg c4] at H
    have c4b0 : decide (1 ≤ a2) = false := decide_eq_false c4
    clear c4
    obtain rfl := Option.some.inj H
    go_enter Try.func57, Try.ntmps57
    go_wp2
    go_ret
    exact ⟨by first | rfl | (simp; done) | (simp [*]; done), by repeat (first | exact Drawn0.refl _ | apply Drawn0.step)⟩

/-! ### field_Get: function 40 -/
def field_Get.f (k : Nat) (l0 : List Int) (a1 : Int) (a2 : Int) : Option (Int × Int) := (field_stands.f (l0.length : Int) a1 a2).bind fun t102 => (if t102 = true then (if 0 ≤ a1 then (if a1 ≤ (wrap64 (a1 + a2)) then (if (wrap64 (a1 + a2)) ≤ (l0.length : Int) then ((field_get.f k ((l0.take ((wrap64 (a1 + a2)) : Int).toNat).drop (a1 : Int).toNat)).bind fun t104 => (some (t104, 0))) else (none)) else (none)) else (none)) else (some (0, 1)))
theorem field_Get.mono : ∀ a0 a1 a2 k, LeO (field_Get.f k a0 a1 a2) (field_Get.f (k + 1) a0 a1 a2) := by
  intro a0 a1 a2 k
  unfold field_Get.f
  repeat' first
      | (with_reducible exact field_get.mono _ _)
      | (with_reducible exact LeO.refl _)
      | (with_reducible exact LeO.none _)
      | (with_reducible refine LeO.ite ?_ ?_)
      | (with_reducible refine LeO.bind ?_ (fun _ => ?_))
      | exact field_get.mono _ _
      | exact LeO.none _
      | refine LeO.ite ?_ ?_
      | refine LeO.bind ?_ (fun _ => ?_)
set_option maxHeartbeats 8000000 in
set_option maxRecDepth 100000 in
theorem field_Get.calls (k : Nat) (A0 : Option Addr) (c0 : Nat) (l0 : List Int) (a1 : Int) (a2 : Int) (r1 : Int) (r2 : Int) (w : World) (hr0 : Kd.C (Kd.int .u8) w A0 l0.length l0) (hc0 : l0.length ≤ c0) (h : field_Get.f k l0 a1 a2 = some (r1, r2)) :
    Calls Try.prog 40 #[.slice A0 l0.length c0, .int .i64 a1, .int .i64 a2] w fun e w' => e = .returned (.tuple #[.int .u64 r1, .int .i64 r2]) ∧ Drawn0 w w' := by
  have HR0 := Aside0.mk hr0
  have HC0 := Aside0.mk hc0
  clear hr0 hc0
  have H : ((field_stands.f (l0.length : Int) a1 a2).bind fun t102 => (if t102 = true then (if 0 ≤ a1 then (if a1 ≤ (wrap64 (a1 + a2)) then (if (wrap64 (a1 + a2)) ≤ (l0.length : Int) then ((field_get.f k ((l0.take ((wrap64 (a1 + a2)) : Int).toNat).drop (a1 : Int).toNat)).bind fun t104 => (some (t104, 0))) else (none)) else (none)) else (none)) else (some (0, 1)))) = some (r1, r2) := h
  clear h
  replace H := Option.bind_eq_some_iff.mp H
  obtain ⟨t102, A40, H⟩ := H
  replace H : (if t102 = true then (if 0 ≤ a1 then (if a1 ≤ (wrap64 (a1 + a2)) then (if (wrap64 (a1 + a2)) ≤ (l0.length : Int) then ((field_get.f k ((l0.take ((wrap64 (a1 + a2)) : Int).toNat).drop (a1 : Int).toNat)).bind fun t104 => (some (t104, 0))) else (none)) else (none)) else (none)) else (some (0, 1))) = some (r1, r2) := H
  have A4 := Aside0.mk A40
  clear A40
  by_cases c5 : t102 = true
  · subst c5
    have H1 : (if 0 ≤ a1 then (if a1 ≤ (wrap64 (a1 + a2)) then (if (wrap64 (a1 + a2)) ≤ (l0.length : Int) then ((field_get.f k ((l0.take ((wrap64 (a1 + a2)) : Int).toNat).drop (a1 : Int).toNat)).bind fun t104 => (some (t104, 0))) else (none)) else (none)) else (none)) = some (r1, r2) := by rw [if_pos rfl] at H; exact H
    clear H
    have H := H1
    clear H1
    by_cases c6 : 0 ≤ a1
    · rw [if_pos c6] at H
      have c6b0 := eq_true c6
      have c6b1 : decide (0 ≤ a1) = true := decide_eq_true c6
      clear c6
      by_cases c7 : a1 ≤ (wrap64 (a1 + a2))
      · rw [if_pos c7] at H
        have c7b0 := eq_true c7
        have c7b1 : decide (a1 ≤ (wrap64 (a1 + a2))) = true := decide_eq_true c7
        by_cases c8 : (wrap64 (a1 + a2)) ≤ (l0.length : Int)
        · rw [if_pos c8] at H
          have c8b0 := eq_true c8
          have c8b1 : decide ((wrap64 (a1 + a2)) ≤ (l0.length : Int)) = true := decide_eq_true c8
          replace H := Option.bind_eq_some_iff.mp H
          obtain ⟨t104, A90, H⟩ := H
          replace H : (some (t104, 0)) = some (r1, r2) := H
          have A9 := Aside0.mk A90
          clear A90
          simp only [Option.some.injEq, Prod.mk.injEq] at H
          obtain ⟨rfl, rfl⟩ := H
          go_enter Try.func40, Try.ntmps40
          go_wp2_with (first | ((with_reducible refine gate_callee (f := 57) rfl ?_); refine goesL_ (some 12) rfl rfl Try.func57 (by kernel_rfl) rfl #[.int .i64 (l0.length : Int), .int .i64 a1, .int .i64 a2] rfl (by (try simp only [List.map_toArray, List.map_cons, List.map_nil]); first | done | rfl | (simp only [List.length_drop, List.length_take]; rfl)) ?_; (with_reducible refine (field_stands.calls (l0.length : Int) a1 a2 true _ A4.out).mono ?_); rintro e w' ⟨rfl, ⟨nd, rfl⟩⟩; refine ⟨_, rfl, ?_⟩; obtain ⟨i010, hi010, _, hsz10, _⟩ := info_parts info5; obtain ⟨A10, hcut10, hA10, hC10⟩ := print_mid_of (P := Try.prog) (Value.int .u8) 0 33 5 .i64 .i64 Try.underlying33 hi010 hsz10 A0 c0 l0 a1 (wrap64 (a1 + a2)) (of_decide_eq_true (by first | (with_reducible assumption) | assumption)) (by first | omega | exact of_decide_eq_true (by first | (with_reducible assumption) | assumption)) (of_decide_eq_true (by first | (with_reducible assumption) | assumption)) HC0.out; have HR103 := Aside0.mk (Kd.C_of_reads (h1 := fun _ => rfl) (hA10 _ (Kd.reads_of_C HR0.out))); have HC103 := Aside0.mk hC10; clear hA10 hC10 hi010 hsz10) | ((with_reducible refine gate_callee (f := 55) rfl ?_); refine goesL_ (some 20) rfl rfl Try.func55 (by kernel_rfl) rfl #[.slice A10 ((l0.take ((wrap64 (a1 + a2)) : Int).toNat).drop (a1 : Int).toNat).length (c0 - a1.toNat)] rfl (by (try simp only [List.map_toArray, List.map_cons, List.map_nil]); first | done | (rw [show ((l0.take ((wrap64 (a1 + a2)) : Int).toNat).drop (a1 : Int).toNat).length = ((wrap64 (a1 + a2)).toNat - a1.toNat) from (by rw [List.length_drop, List.length_take]; have h_ : ((wrap64 (a1 + a2)) : Int) ≤ (l0.length : Int) := of_decide_eq_true (by first | (with_reducible assumption) | assumption); omega)] <;> rfl) | rfl | (simp only [List.length_drop, List.length_take]; rfl)) ?_; (with_reducible refine (field_get.calls k _ _ ((l0.take ((wrap64 (a1 + a2)) : Int).toNat).drop (a1 : Int).toNat) t104 _ ?side1 ?side2 A9.out).mono ?_); (case side1 => repeat (first | exact HR103.out | (with_reducible refine Kd.C_alloc ?_ _) | (with_reducible refine Kd.C_drewN ?_ _) | (with_reducible refine Kd.C_drew ?_))); (case side2 => exact HC103.out); rintro e w' ⟨rfl, ⟨nd, rfl⟩⟩; refine ⟨_, rfl, ?_⟩))
          go_ret2
          exact ⟨by first | rfl | (simp; done) | (simp [*]; done), by repeat (first | exact Drawn0.refl _ | apply Drawn0.step)⟩
        · rw [if_neg c8] at H
          exact absurd H (by simp)
      · rw [if_neg c7] at H
        exact absurd H (by simp)
    · rw [if_neg c6] at H
      exact absurd H (by simp)
  · replace c5 := Bool.eq_false_iff.mpr c5
    subst c5
    have H1 : (some (0, 1)) = some (r1, r2) := by rw [if_neg (show ¬ (false = true) by decide)] at H; exact H
    clear H
    have H := H1
    clear H1
    simp only [Option.some.injEq, Prod.mk.injEq] at H
    obtain ⟨rfl, rfl⟩ := H
    go_enter Try.func40, Try.ntmps40
    go_wp2_with (first | ((with_reducible refine gate_callee (f := 57) rfl ?_); refine goesL_ (some 12) rfl rfl Try.func57 (by kernel_rfl) rfl #[.int .i64 (l0.length : Int), .int .i64 a1, .int .i64 a2] rfl (by (try simp only [List.map_toArray, List.map_cons, List.map_nil]); first | done | rfl | (simp only [List.length_drop, List.length_take]; rfl)) ?_; (with_reducible refine (field_stands.calls (l0.length : Int) a1 a2 false _ A4.out).mono ?_); rintro e w' ⟨rfl, ⟨nd, rfl⟩⟩; refine ⟨_, rfl, ?_⟩))
    go_ret2
    exact ⟨by first | rfl | (simp; done) | (simp [*]; done), by repeat (first | exact Drawn0.refl _ | apply Drawn0.step)⟩

-- NOT PRINTED: function 36 (field_Take)

/-! ### field_fits: function 58 -/
def field_fits.f (a0 : Int) (a1 : Int) : Option (Bool) := if a1 = 8 then (some true) else (if 0 ≤ (wrap64 (8 * a1)) then (some ((shr .u64 a0 (wrap64 (8 * a1))) == 0)) else (none))
set_option maxHeartbeats 8000000 in
set_option maxRecDepth 100000 in
theorem field_fits.calls (a0 : Int) (a1 : Int) (r : Bool) (w : World) (h : field_fits.f a0 a1 = some r) :
    Calls Try.prog 58 #[.int .u64 a0, .int .i64 a1] w fun e w' => e = .returned (.bool r) ∧ Drawn0 w w' := by
  have H : (if a1 = 8 then (some true) else (if 0 ≤ (wrap64 (8 * a1)) then (some ((shr .u64 a0 (wrap64 (8 * a1))) == 0)) else (none))) = some r := h
  clear h
  by_cases c3 : a1 = 8
  · rw [if_pos c3] at H
    have c3b0 : (a1 == 8) = true := beq_iff_eq.mpr c3
    have c3b1 : (a1 != 8) = false := bne_eq_false_iff_eq.mpr c3
    clear c3
    obtain rfl := Option.some.inj H
    go_enter Try.func58, Try.ntmps58
    go_wp2
    go_ret
    exact ⟨by first | rfl | (simp; done) | (simp [*]; done), by repeat (first | exact Drawn0.refl _ | apply Drawn0.step)⟩
  · rw [if_neg c3] at H
    have c3b0 : (a1 == 8) = false := beq_eq_false_iff_ne.mpr c3
    have c3b1 : (a1 != 8) = true := bne_iff_ne.mpr c3
    obtain ⟨ji4, hji4⟩ : ∃ j_ : Int, (wrap64 (8 * a1)) = j_ := ⟨_, rfl⟩
    replace H : (if 0 ≤ (ji4) then (some ((shr .u64 a0 (ji4)) == 0)) else (none)) = some r := by first | (rw [hji4] at H; exact H) | (simp only [hji4] at H ⊢; exact H)
    have hji4w : (IntKind.i64.wrap (8 * a1)) = ji4 := (i64_w _).trans hji4
    by_cases c5 : 0 ≤ (ji4)
    · rw [if_pos c5] at H
      have c5b0 := eq_true c5
      have c5b1 : decide (0 ≤ (ji4)) = true := decide_eq_true c5
      clear c5
      obtain ⟨ji6, hji6⟩ : ∃ j_ : Int, (shr .u64 a0 (ji4)) = j_ := ⟨_, rfl⟩
      replace H : (some ((ji6) == 0)) = some r := by first | (rw [hji6] at H; exact H) | (simp only [hji6] at H ⊢; exact H)
      have hji6_ : (a0 / 2 ^ min (ji4).toNat 64) = ji6 := hji6
      have hji6z : (ji4) ≤ 64 → (a0 / 2 ^ (ji4).toNat) = ji6 := shr_small hji6
      obtain rfl := Option.some.inj H
      go_enter Try.func58, Try.ntmps58
      go_wp2
      go_ret
      exact ⟨by first | rfl | (simp; done) | (simp only [← hji4, ← hji6] <;> (first | rfl | simp)) | (simp [*]; done), by repeat (first | exact Drawn0.refl _ | apply Drawn0.step)⟩
    · rw [if_neg c5] at H
      exact absurd H (by simp)

/-- THE ONE PURE STATEMENT of field_fits: yours. -/
def field_fits.Pure : Prop := ∀ (a0 : Int) (a1 : Int), (Lit.int .u64 a0).wf = true → (Lit.int .i64 a1).wf = true → field_fits.f a0 a1 = some true
theorem field_fits.walk (P : field_fits.Pure) (a0 : Int) (a1 : Int) (w : World) (w0 : (Lit.int .u64 a0).wf = true) (w1 : (Lit.int .i64 a1).wf = true) :
    Calls Try.prog 58 #[.int .u64 a0, .int .i64 a1] w fun e w' => e = .returned (.bool true) ∧ Below w.heap.size w w' := by
  have h := P a0 a1 w0 w1
  refine (field_fits.calls a0 a1 true w h).mono ?_
  rintro e w' ⟨rfl, hd⟩
  exact ⟨rfl, hd.below⟩

-- NOT PRINTED: function 59 (field_put)

/-! ### inode_pointer: function 61 -/
def inode_pointer.f (a0 : Int) : Option (Bool) := if a0 ≥ 0 then (some (decide (a0 ≤ 512))) else (some false)
set_option maxHeartbeats 8000000 in
set_option maxRecDepth 100000 in
theorem inode_pointer.calls (a0 : Int) (r : Bool) (w : World) (h : inode_pointer.f a0 = some r) :
    Calls Try.prog 61 #[.int .i64 a0] w fun e w' => e = .returned (.bool r) ∧ Drawn0 w w' := by
  have H : (if a0 ≥ 0 then (some (decide (a0 ≤ 512))) else (some false)) = some r := h
  clear h
  by_cases c2 : a0 ≥ 0
  · rw [if_pos c2] at H
    have c2b0 : decide (0 ≤ a0) = true := decide_eq_true c2
    clear c2
    obtain rfl := Option.some.inj H
    go_enter Try.func61, Try.ntmps61
    go_wp2
    go_ret
    exact ⟨by first | rfl | (simp; done) | (simp [*]; done), by repeat (first | exact Drawn0.refl _ | apply Drawn0.step)⟩
  · rw [if_neg c2] at H
    have c2b0 : decide (0 ≤ a0) = false := decide_eq_false c2
    clear c2
    obtain rfl := Option.some.inj H
    go_enter Try.func61, Try.ntmps61
    go_wp2
    go_ret
    exact ⟨by first | rfl | (simp; done) | (simp [*]; done), by repeat (first | exact Drawn0.refl _ | apply Drawn0.step)⟩

/-- THE ONE PURE STATEMENT of inode_pointer: yours. -/
def inode_pointer.Pure : Prop := ∀ (a0 : Int), (Lit.int .i64 a0).wf = true → inode_pointer.f a0 = some true
theorem inode_pointer.walk (P : inode_pointer.Pure) (a0 : Int) (w : World) (w0 : (Lit.int .i64 a0).wf = true) :
    Calls Try.prog 61 #[.int .i64 a0] w fun e w' => e = .returned (.bool true) ∧ Below w.heap.size w w' := by
  have h := P a0 w0
  refine (inode_pointer.calls a0 true w h).mono ?_
  rintro e w' ⟨rfl, hd⟩
  exact ⟨rfl, hd.below⟩

/-! ### bits_within: function 62 -/
def bits_within.f (l0 : List Int) (a1 : Int) (a2 : Int) : Option (Int × Int) := some (mx a1 0, mn a2 (wrap64 (8 * (l0.length : Int))))
set_option maxHeartbeats 8000000 in
set_option maxRecDepth 100000 in
theorem bits_within.calls (A0 : Option Addr) (c0 : Nat) (l0 : List Int) (a1 : Int) (a2 : Int) (r1 : Int) (r2 : Int) (w : World) (hr0 : Kd.C (Kd.int .u8) w A0 l0.length l0) (hc0 : l0.length ≤ c0) (h : bits_within.f l0 a1 a2 = some (r1, r2)) :
    Calls Try.prog 62 #[.slice A0 l0.length c0, .int .i64 a1, .int .i64 a2] w fun e w' => e = .returned (.tuple #[.int .i64 r1, .int .i64 r2]) ∧ Below w.heap.size w w' := by
  have HR0 := Aside0.mk hr0
  have HC0 := Aside0.mk hc0
  clear hr0 hc0
  have HB := Aside0.mk (Below.refl w.heap.size w)
  have H : (some (mx a1 0, mn a2 (wrap64 (8 * (l0.length : Int))))) = some (r1, r2) := h
  clear h
  obtain ⟨ji4, hji4⟩ : ∃ j_ : Int, (mx a1 0) = j_ := ⟨_, rfl⟩
  replace H : (some (ji4, mn a2 (wrap64 (8 * (l0.length : Int))))) = some (r1, r2) := by first | (rw [hji4] at H; exact H) | (simp only [hji4] at H ⊢; exact H)
  (try (have hji4l : 0 ≤ ji4 := by (rw [← hji4]; unfold mx; (repeat' split) <;> omega)))
  (try (have hji4m : 0 ≤ ji4 := by omega))
  have hji4_ : (if a1 < 0 then 0 else a1) = ji4 := hji4
  obtain ⟨ji5, hji5⟩ : ∃ j_ : Int, (mn a2 (wrap64 (8 * (l0.length : Int)))) = j_ := ⟨_, rfl⟩
  replace H : (some (ji4, ji5)) = some (r1, r2) := by first | (rw [hji5] at H; exact H) | (simp only [hji5] at H ⊢; exact H)
  have hji5_ : (if (wrap64 (8 * (l0.length : Int))) < a2 then (wrap64 (8 * (l0.length : Int))) else a2) = ji5 := hji5
  simp only [Option.some.injEq, Prod.mk.injEq] at H
  obtain ⟨rfl, rfl⟩ := H
  go_enter Try.func62, Try.ntmps62
  go_wp2
  go_ret2
  exact ⟨by first | rfl | (simp [errW_none, errW_some] <;> rfl) | (simp only [← hji4, ← hji5]; first | rfl | (simp [errW_none, errW_some] <;> rfl)) | (simp [*, errW_none, errW_some] <;> rfl), by repeat (first | (with_reducible first | exact HB.out | apply below_alloc | apply pw_below_drewN | apply below_drew1) | exact HB.out)⟩

/-! ### bits_Has: function 63 -/
def bits_Has.f (l0 : List Int) (a1 : Int) : Option (Bool) := if a1 ≥ 0 then (if a1 < (wrap64 (8 * (l0.length : Int))) then (if 0 ≤ (wrap64 (Int.tdiv a1 8)) then (if (wrap64 (Int.tdiv a1 8)) < (l0.length : Int) then (if 0 ≤ (Int.tmod a1 8) then (some ((Go.bits .and .u8 (shr .u8 (rd l0 (wrap64 (Int.tdiv a1 8))) (Int.tmod a1 8)) 1) == 1)) else (none)) else (none)) else (none)) else (some false)) else (some false)
set_option maxHeartbeats 8000000 in
set_option maxRecDepth 100000 in
theorem bits_Has.calls (A0 : Option Addr) (c0 : Nat) (l0 : List Int) (a1 : Int) (r : Bool) (w : World) (hr0 : Kd.C (Kd.int .u8) w A0 l0.length l0) (hc0 : l0.length ≤ c0) (h : bits_Has.f l0 a1 = some r) :
    Calls Try.prog 63 #[.slice A0 l0.length c0, .int .i64 a1] w fun e w' => e = .returned (.bool r) ∧ Drawn0 w w' := by
  have HR0 := Aside0.mk hr0
  have HC0 := Aside0.mk hc0
  clear hr0 hc0
  have H : (if a1 ≥ 0 then (if a1 < (wrap64 (8 * (l0.length : Int))) then (if 0 ≤ (wrap64 (Int.tdiv a1 8)) then (if (wrap64 (Int.tdiv a1 8)) < (l0.length : Int) then (if 0 ≤ (Int.tmod a1 8) then (some ((Go.bits .and .u8 (shr .u8 (rd l0 (wrap64 (Int.tdiv a1 8))) (Int.tmod a1 8)) 1) == 1)) else (none)) else (none)) else (none)) else (some false)) else (some false)) = some r := h
  clear h
  by_cases c3 : a1 ≥ 0
  · rw [if_pos c3] at H
    have c3b0 : decide (0 ≤ a1) = true := decide_eq_true c3
    clear c3
    by_cases c4 : a1 < (wrap64 (8 * (l0.length : Int)))
    · rw [if_pos c4] at H
      have c4b0 : decide (a1 < (wrap64 (8 * (l0.length : Int)))) = true := decide_eq_true c4
      clear c4
      obtain ⟨ji5, hji5⟩ : ∃ j_ : Int, (wrap64 (Int.tdiv a1 8)) = j_ := ⟨_, rfl⟩
      replace H : (if 0 ≤ (ji5) then (if (ji5) < (l0.length : Int) then (if 0 ≤ (Int.tmod a1 8) then (some ((Go.bits .and .u8 (shr .u8 (rd l0 (ji5)) (Int.tmod a1 8)) 1) == 1)) else (none)) else (none)) else (none)) = some r := by first | (rw [hji5] at H; exact H) | (simp only [hji5] at H ⊢; exact H)
      have hji5w : (IntKind.i64.wrap (Int.tdiv a1 8)) = ji5 := (i64_w _).trans hji5
      by_cases c6 : 0 ≤ (ji5)
      · rw [if_pos c6] at H
        have c6b0 : decide (0 ≤ (ji5)) = true := decide_eq_true c6
        clear c6
        by_cases c7 : (ji5) < (l0.length : Int)
        · rw [if_pos c7] at H
          have c7b0 : decide ((ji5) < (l0.length : Int)) = true := decide_eq_true c7
          clear c7
          obtain ⟨ji8, hji8⟩ : ∃ j_ : Int, (Int.tmod a1 8) = j_ := ⟨_, rfl⟩
          replace H : (if 0 ≤ (ji8) then (some ((Go.bits .and .u8 (shr .u8 (rd l0 (ji5)) (ji8)) 1) == 1)) else (none)) = some r := by first | (rw [hji8] at H; exact H) | (simp only [hji8] at H ⊢; exact H)
          by_cases c9 : 0 ≤ (ji8)
          · rw [if_pos c9] at H
            have c9b0 := eq_true c9
            have c9b1 : decide (0 ≤ (ji8)) = true := decide_eq_true c9
            clear c9
            obtain ⟨ji10, hji10⟩ : ∃ j_ : Int, (shr .u8 (rd l0 (ji5)) (ji8)) = j_ := ⟨_, rfl⟩
            replace H : (some ((Go.bits .and .u8 (ji10) 1) == 1)) = some r := by first | (rw [hji10] at H; exact H) | (simp only [hji10] at H ⊢; exact H)
            have hji10_ : ((rd l0 (ji5)) / 2 ^ min (ji8).toNat 8) = ji10 := hji10
            have hji10z : (ji8) ≤ 8 → ((rd l0 (ji5)) / 2 ^ (ji8).toNat) = ji10 := shr_small hji10
            obtain rfl := Option.some.inj H
            have p105 : 0 ≤ ((ji5) : Int) := of_decide_eq_true (by first | (with_reducible assumption) | assumption)
            have q105 : (ji5) < (l0.length : Int) := of_decide_eq_true (by first | (with_reducible assumption) | assumption)
            obtain ⟨ad105, e105, hx105_0⟩ := Kd.at_int HR0.out (ji5) p105 q105
            cases e105
            replace p105 := eq_true p105
            replace q105 := eq_true q105
            go_enter Try.func63, Try.ntmps63
            go_wp2
            go_ret
            exact ⟨by first | rfl | (simp; done) | (simp only [← hji5, ← hji8, ← hji10] <;> (first | rfl | simp)) | (simp [*]; done), by repeat (first | exact Drawn0.refl _ | apply Drawn0.step)⟩
          · rw [if_neg c9] at H
            exact absurd H (by simp)
        · rw [if_neg c7] at H
          exact absurd H (by simp)
      · rw [if_neg c6] at H
        exact absurd H (by simp)
    · rw [if_neg c4] at H
      have c4b0 : decide (a1 < (wrap64 (8 * (l0.length : Int)))) = false := decide_eq_false c4
      clear c4
      obtain rfl := Option.some.inj H
      go_enter Try.func63, Try.ntmps63
      go_wp2
      go_ret
      exact ⟨by first | rfl | (simp; done) | (simp [*]; done), by repeat (first | exact Drawn0.refl _ | apply Drawn0.step)⟩
  · rw [if_neg c3] at H
    have c3b0 : decide (0 ≤ a1) = false := decide_eq_false c3
    clear c3
    obtain rfl := Option.some.inj H
    go_enter Try.func63, Try.ntmps63
    go_wp2
    go_ret
    exact ⟨by first | rfl | (simp; done) | (simp [*]; done), by repeat (first | exact Drawn0.refl _ | apply Drawn0.step)⟩

/-! ### bits_Count: function 49 -/
def bits_Count.l0 : Nat → List Int → Int → Int → Int → Option (Int)
  | 0, _, _, _, _ => none
  | k + 1, x0, x7, x9, x10 => if x10 < x9 then ((bits_Has.f x0 x10).bind fun t108 => (if t108 = true then (bits_Count.l0 k x0 (wrap64 (x7 + 1)) x9 (wrap64 (x10 + 1))) else (bits_Count.l0 k x0 x7 x9 (wrap64 (x10 + 1))))) else (some x7)
def bits_Count.f (k : Nat) (l0 : List Int) (a1 : Int) (a2 : Int) : Option (Int) := (bits_within.f l0 a1 a2).bind fun bt106 => (bits_Count.l0 k l0 0 bt106.2 bt106.1)
theorem bits_Count.mono_l : ∀ k, (∀ y0 y1 y2 y3, LeO (bits_Count.l0 k y0 y1 y2 y3) (bits_Count.l0 (k + 1) y0 y1 y2 y3))
  | 0 => fun _ _ _ _ r h => by simp [bits_Count.l0] at h
  | k + 1 => by
    have ih0 := bits_Count.mono_l k
    · intro y0 y1 y2 y3
      unfold bits_Count.l0
      repeat' first
      | (with_reducible exact ih0 _ _ _ _)
      | (with_reducible exact LeO.refl _)
      | (with_reducible exact LeO.none _)
      | (with_reducible refine LeO.ite ?_ ?_)
      | (with_reducible refine LeO.bind ?_ (fun _ => ?_))
      | exact ih0 _ _ _ _
      | exact LeO.none _
      | refine LeO.ite ?_ ?_
      | refine LeO.bind ?_ (fun _ => ?_)
theorem bits_Count.mono : ∀ a0 a1 a2 k, LeO (bits_Count.f k a0 a1 a2) (bits_Count.f (k + 1) a0 a1 a2) := by
  intro a0 a1 a2 k
  have ih0 := bits_Count.mono_l k
  unfold bits_Count.f
  repeat' first
      | (with_reducible exact ih0 _ _ _ _)
      | (with_reducible exact LeO.refl _)
      | (with_reducible exact LeO.none _)
      | (with_reducible refine LeO.ite ?_ ?_)
      | (with_reducible refine LeO.bind ?_ (fun _ => ?_))
      | exact ih0 _ _ _ _
      | exact LeO.none _
      | refine LeO.ite ?_ ?_
      | refine LeO.bind ?_ (fun _ => ?_)
set_option maxHeartbeats 8000000 in
set_option maxRecDepth 100000 in
theorem bits_Count.calls (k : Nat) (A0 : Option Addr) (c0 : Nat) (l0 : List Int) (a1 : Int) (a2 : Int) (r : Int) (w : World) (hr0 : Kd.C (Kd.int .u8) w A0 l0.length l0) (hc0 : l0.length ≤ c0) (h : bits_Count.f k l0 a1 a2 = some r) :
    Calls Try.prog 49 #[.slice A0 l0.length c0, .int .i64 a1, .int .i64 a2] w fun e w' => e = .returned (.int .i64 r) ∧ Below w.heap.size w w' := by
  have HR0 := Aside0.mk hr0
  have HC0 := Aside0.mk hc0
  clear hr0 hc0
  have HB := Aside0.mk (Below.refl w.heap.size w)
  have H : ((bits_within.f l0 a1 a2).bind fun bt106 => (bits_Count.l0 k l0 0 bt106.2 bt106.1)) = some r := h
  clear h
  replace H := Option.bind_eq_some_iff.mp H
  obtain ⟨⟨t106, t107⟩, A40, H⟩ := H
  replace H : (bits_Count.l0 k l0 0 t107 t106) = some r := H
  have A4 := Aside0.mk A40
  clear A40
  have H' := Aside0.mk H
  clear H
  go_enter Try.func49, Try.ntmps49
  go_wp2_with (first | ((with_reducible refine gate_callee (f := 62) rfl ?_); refine goesL_ (some 15) rfl rfl Try.func62 (by kernel_rfl) rfl #[.slice A0 l0.length c0, .int .i64 a1, .int .i64 a2] rfl (by (try simp only [List.map_toArray, List.map_cons, List.map_nil]); first | done | rfl | (simp only [List.length_drop, List.length_take]; rfl)) ?_; (with_reducible refine (bits_within.calls _ _ l0 a1 a2 t106 t107 _ ?side1 ?side2 A4.out).mono ?_); (case side1 => repeat (first | exact HR0.out | (with_reducible refine Kd.C_alloc ?_ _) | (with_reducible refine Kd.C_drewN ?_ _) | (with_reducible refine Kd.C_drew ?_))); (case side2 => exact HC0.out); rintro e w5 ⟨rfl, hb⟩; refine ⟨_, rfl, ?_⟩; have n0_ := Aside0.mk (below_step (by repeat (first | (with_reducible first | exact HB.out | apply below_alloc | apply pw_below_drewN | apply below_drew1) | exact HB.out)) hb); clear HB; have HB := n0_; clear n0_; (try clear hb); (try clear hb2); (try clear hk); (try clear hi)))
  go_loopg [7, 10] k (fun kq v7 v10 w' => ∃ (x7_1 : Int) (x10_1 : Int), v7 = .int .i64 x7_1 ∧ v10 = .int .i64 x10_1 ∧ Aside0 (bits_Count.l0 kq l0 x7_1 t107 x10_1 = some r) ∧ Aside0 (kq ≤ k) ∧ Aside0 (Below w.heap.size w w'))
  case atStart => exact ⟨(0), (t106), (by first | rfl | (simp; done) | (simp [*]; done)), (by first | rfl | (simp; done) | (simp [*]; done)), H', ⟨Nat.le_refl _⟩, ⟨by repeat (first | (with_reducible first | exact HB.out | apply below_alloc | apply pw_below_drewN | apply below_drew1) | exact HB.out)⟩⟩
  case round =>
    clear H'
    try clear p2
    try clear c4
    obtain ⟨x7_1, x10_1, rfl, rfl, HA, HK1, HB⟩ := hrel
    cases gk with
    | zero => exact absurd HA.out (by simp [bits_Count.l0])
    | succ k1 =>
      have H := HA.out
      clear HA
      simp only [bits_Count.l0] at H
      by_cases c6 : x10_1 < t107
      · rw [if_pos c6] at H
        have c6b0 : decide (x10_1 < t107) = true := decide_eq_true c6
        clear c6
        replace H := Option.bind_eq_some_iff.mp H
        obtain ⟨t108, A70, H⟩ := H
        replace H : (if t108 = true then (bits_Count.l0 k1 l0 (wrap64 (x7_1 + 1)) t107 (wrap64 (x10_1 + 1))) else (bits_Count.l0 k1 l0 x7_1 t107 (wrap64 (x10_1 + 1)))) = some r := H
        have A7 := Aside0.mk A70
        clear A70
        by_cases c8 : t108 = true
        · subst c8
          have H1 : (bits_Count.l0 k1 l0 (wrap64 (x7_1 + 1)) t107 (wrap64 (x10_1 + 1))) = some r := by rw [if_pos rfl] at H; exact H
          clear H
          have H := H1
          clear H1
          have H' := Aside0.mk H
          clear H
          go_wp2_with (first | ((with_reducible refine gate_callee (f := 63) rfl ?_); refine goesL_ (some 26) rfl rfl Try.func63 (by kernel_rfl) rfl #[.slice A0 l0.length c0, .int .i64 x10_1] rfl (by (try simp only [List.map_toArray, List.map_cons, List.map_nil]); first | done | rfl | (simp only [List.length_drop, List.length_take]; rfl)) ?_; (with_reducible refine (bits_Has.calls _ _ l0 x10_1 true _ ?side1 ?side2 A7.out).mono ?_); (case side1 => repeat (first | exact (Kd.C_below HR0.out HB.out) | (with_reducible refine Kd.C_alloc ?_ _) | (with_reducible refine Kd.C_drewN ?_ _) | (with_reducible refine Kd.C_drew ?_))); (case side2 => exact HC0.out); rintro e w' ⟨rfl, ⟨nd, rfl⟩⟩; refine ⟨_, rfl, ?_⟩))
          go_roundg k1
          case measure => have := HK1.out; omega
          case rel => exact ⟨(wrap64 (x7_1 + 1)), (wrap64 (x10_1 + 1)), (by first | rfl | (simp; done) | (simp [*]; done)), (by first | rfl | (simp; done) | (simp [*]; done)), H', ⟨by have := HK1.out; omega⟩, ⟨by repeat (first | (with_reducible first | exact HB.out | apply below_alloc | apply pw_below_drewN | apply below_drew1) | exact HB.out)⟩⟩
        · replace c8 := Bool.eq_false_iff.mpr c8
          subst c8
          have H1 : (bits_Count.l0 k1 l0 x7_1 t107 (wrap64 (x10_1 + 1))) = some r := by rw [if_neg (show ¬ (false = true) by decide)] at H; exact H
          clear H
          have H := H1
          clear H1
          have H' := Aside0.mk H
          clear H
          go_wp2_with (first | ((with_reducible refine gate_callee (f := 63) rfl ?_); refine goesL_ (some 26) rfl rfl Try.func63 (by kernel_rfl) rfl #[.slice A0 l0.length c0, .int .i64 x10_1] rfl (by (try simp only [List.map_toArray, List.map_cons, List.map_nil]); first | done | rfl | (simp only [List.length_drop, List.length_take]; rfl)) ?_; (with_reducible refine (bits_Has.calls _ _ l0 x10_1 false _ ?side1 ?side2 A7.out).mono ?_); (case side1 => repeat (first | exact (Kd.C_below HR0.out HB.out) | (with_reducible refine Kd.C_alloc ?_ _) | (with_reducible refine Kd.C_drewN ?_ _) | (with_reducible refine Kd.C_drew ?_))); (case side2 => exact HC0.out); rintro e w' ⟨rfl, ⟨nd, rfl⟩⟩; refine ⟨_, rfl, ?_⟩))
          go_roundg k1
          case measure => have := HK1.out; omega
          case rel => exact ⟨(x7_1), (wrap64 (x10_1 + 1)), (by first | rfl | (simp; done) | (simp [*]; done)), (by first | rfl | (simp; done) | (simp [*]; done)), H', ⟨by have := HK1.out; omega⟩, ⟨by repeat (first | (with_reducible first | exact HB.out | apply below_alloc | apply pw_below_drewN | apply below_drew1) | exact HB.out)⟩⟩
      · rw [if_neg c6] at H
        have c6b0 : decide (x10_1 < t107) = false := decide_eq_false c6
        clear c6
        obtain rfl := Option.some.inj H
        go_wp2
        go_ret
        exact ⟨by first | rfl | (simp [errW_none, errW_some] <;> rfl) | (simp [*, errW_none, errW_some] <;> rfl), by repeat (first | (with_reducible first | exact HB.out | apply below_alloc | apply pw_below_drewN | apply below_drew1) | exact HB.out)⟩

end Go.Proofs.Ytpbijdalfeaheaa.P

/- Contracts of functions that the statements reach: each call's answer as a plain Lean function. Printed by a program of this session (over the kit's print) out of the translation; Lean checks it. -/
namespace Go.Proofs.Ytpbijdalfeaheaa.P
open Go.RowKit Go.Proofs.YtpbijdalfeaheaaW.PrintWords Go.Proofs.YtpbijdalfeaheaaW.PrintLast Go.Proofs.YtpbijdalfeaheaaW.PrintMore
attribute [local go_sem] max2_int min2_int max_two min_two max_three min_three max_four min_four   -- for this text's walks alone
set_option linter.unusedVariables false
set_option linter.unusedSimpArgs false

end Go.Proofs.Ytpbijdalfeaheaa.P

/- field: numbers laid over bytes. Walks. -/
namespace Go.Proofs.Ytpbijdalfeaheaa.Tf
open Go.RowKit Go.Proofs.YtpbijdalfeaheaaW.PrintWords Go.Proofs.YtpbijdalfeaheaaW.PrintLast Go.Proofs.YtpbijdalfeaheaaW.PrintMore
set_option linter.unusedVariables false
set_option linter.unusedSimpArgs false
/-- A number's bytes, the least first. -/
def putL (n : Int) : Nat → List Int
  | 0 => []
  | k + 1 => putL n k ++ [n / 256 ^ k % 256]
theorem putL_len (n : Int) : ∀ k, (putL n k).length = k := by
  intro k
  induction k with
  | zero => rfl
  | succ k ih => simp [putL, ih]
/-- The row with the first k bytes of the number laid from o on. -/
def over (xs : List Int) (o : Nat) (n : Int) (k : Nat) : List Int := xs.take o ++ putL n k ++ xs.drop (o + k)
theorem over_len {xs : List Int} {o k : Nat} (n : Int) (h : o + k ≤ xs.length) : (over xs o n k).length = xs.length := by
  unfold over; simp [putL_len]; omega
theorem over_zero (xs : List Int) (o : Nat) (n : Int) : over xs o n 0 = xs := by simp [over, putL]
theorem over_succ {xs : List Int} {o k : Nat} (n : Int) (h : o + k < xs.length) : (over xs o n k).set (o + k) (n / 256 ^ k % 256) = over xs o n (k + 1) := by
  have h1 : (xs.take o ++ putL n k).length = o + k := by simp [putL_len]; omega
  unfold over
  rw [List.set_append_right (o + k) _ (by omega), h1, Nat.sub_self, List.drop_eq_getElem_cons h, List.set_cons_zero, putL]
  simp [Nat.add_assoc]
theorem shr_byte (n : Int) (k : Nat) (hk : k < 8) : n / 2 ^ (8 * k) = n / 256 ^ k := by
  have : (2 : Int) ^ (8 * k) = 256 ^ k := by rw [Int.pow_mul]; rfl
  rw [this]
set_option maxHeartbeats 4000000 in
set_option maxRecDepth 100000 in
theorem put_any (base : Nat) (ok : Nat → Prop) (g o size cap c : Nat) (n : Int) (xs : List Int) (w : World) (hR : Kd.R (Kd.int .u8) 5 w base ok (.slice (some ⟨g, 0, none⟩) xs.length cap) xs) (ho : o + size ≤ xs.length) (hs : size ≤ 8) (hn : 0 ≤ n) (hl : xs.length ≤ 100000) :
    Calls Try.prog 59 #[.slice (some ⟨g, o, none⟩) size c, .int .u64 n] w fun e w' => e = .returned (.tuple #[]) ∧ Kd.R (Kd.int .u8) 5 w' base ok (.slice (some ⟨g, 0, none⟩) xs.length cap) (over xs o n size) ∧ w.grownBy w' (some g) := by
  have HR := Lib.hid hR
  clear hR
  go_enter Try.func59, Try.ntmps59
  go_wp2_with fail
  go_loopg [7] size (fun q i wr => ∃ k : Nat, k + q = size ∧ i = .int .i64 (k : Int) ∧ Hid (Kd.R (Kd.int .u8) 5 wr base ok (.slice (some ⟨g, 0, none⟩) xs.length cap) (over xs o n k)) ∧ Hid (w.grownBy wr (some g)))
  case atStart => exact ⟨0, by omega, rfl, by rw [over_zero]; exact HR, Lib.hid (World.grownBy.refl _ _)⟩
  case round =>
    obtain ⟨k, hk, rfl, hR, hG⟩ := hrel
    cases gk with
    | zero =>
      obtain rfl : k = size := by omega
      have c1 : decide ((k : Int) < (k : Int)) = false := decide_eq_false (by omega)
      go_wp2_with fail
      first | go_end0 | ((try simp only [Exit.inBlock, Exit.then]); refine bodyPost_ret (results_none rfl _ _ _) rfl ?_)
      exact ⟨rfl, hR.out, hG.out⟩
    | succ q =>
      have c1 : decide ((k : Int) < (size : Int)) = true := decide_eq_true (by omega)
      have p1 : 0 ≤ (k : Int) := by omega
      have q1 : (k : Int) < (size : Int) := by omega
      have w1 : wrap64 (8 * (k : Int)) = 8 * (k : Int) := by unfold wrap64; omega
      have hlen : o + k < (over xs o n k).length := by rw [over_len n (by omega)]; omega
      have hR1 : Kd.R (Kd.int .u8) 5 wr base ok (.slice (some ⟨g, 0, none⟩) (over xs o n k).length cap) (over xs o n k) := by rw [over_len n (by omega)]; exact hR.out
      obtain ⟨hc, hf⟩ := Kd.R_cell (0 : Int) hR1 ((o + k : Nat) : Int) (by omega) (by omega)
      obtain ⟨hR2, hg2⟩ := Kd.R_put hR1 ((o + k : Nat) : Int) (n / 256 ^ k % 256)
      rw [Int.toNat_natCast] at hc hf hR2 hg2
      rw [over_succ n (by omega), over_len n (by omega)] at hR2
      replace hR2 := Lib.hid hR2
      replace hg2 := Lib.hid (hG.out.trans hg2)
      have hs8 : (n / 2 ^ (8 * k)) = n / 256 ^ k := shr_byte n k (by omega)
      clear hR1 hlen
      go_wp2_with fail
      go_roundg q
      case measure => omega
      case rel => exact ⟨k + 1, by omega, by go_num, hR2, hg2⟩
end Go.Proofs.Ytpbijdalfeaheaa.Tf

/- field.Lay: numbers laid one behind the other. -/
namespace Go.Proofs.Ytpbijdalfeaheaa.Tf
open Go.RowKit Go.Proofs.YtpbijdalfeaheaaW.PrintWords Go.Proofs.YtpbijdalfeaheaaW.PrintLast Go.Proofs.YtpbijdalfeaheaaW.PrintMore
set_option linter.unusedVariables false
set_option linter.unusedSimpArgs false
def layL (size : Nat) (l : List Int) : List Int := l.flatMap fun n => putL n size
theorem layL_len (size : Nat) : ∀ l : List Int, (layL size l).length = size * l.length := by
  intro l
  induction l with
  | nil => rfl
  | cons n l ih => simp only [layL, List.flatMap_cons, List.length_append, putL_len, List.length_cons]; have : (List.flatMap (fun n => putL n size) l).length = size * l.length := ih; rw [this, Nat.mul_succ, Nat.add_comm]
theorem layL_append (size : Nat) (a b : List Int) : layL size (a ++ b) = layL size a ++ layL size b := by simp [layL]
theorem at_int {k : IntKind} {w : World} {A : Option Addr} {n : Nat} {xs : List Int} (h : Kd.C (Kd.int k) w A n xs) (j : Nat) (hj : j < xs.length) : ∃ ad, A = some ad ∧ w.cell? (ad.add j) = some (.int k xs[j]) := by
  obtain ⟨ad, e, hc⟩ := h.2.2 (by have := h.1; omega)
  obtain ⟨c, _, hr, hcc⟩ := hc j _ (List.getElem?_eq_getElem hj)
  have hr2 : c = [.int k xs[j]] := hr
  subst hr2
  have h2 : w.cell? (ad.add (j * 1 + 0)) = some (.int k xs[j]) := hcc 0 _ rfl
  refine ⟨ad, e, ?_⟩
  simpa using h2
def half (size : Nat) (l : List Int) (k : Nat) : List Int := layL size (l.take k) ++ List.replicate (size * (l.length - k)) 0
theorem half_len {size : Nat} {l : List Int} {k : Nat} (hk : k ≤ l.length) : (half size l k).length = size * l.length := by
  unfold half
  rw [List.length_append, layL_len, List.length_take, List.length_replicate, Nat.min_eq_left hk, ← Nat.mul_add]
  congr 1; omega
theorem half_zero (size : Nat) (l : List Int) : half size l 0 = List.replicate (size * l.length) 0 := by simp [half, layL]
theorem half_all (size : Nat) (l : List Int) : half size l l.length = layL size l := by simp [half]
theorem half_succ {size : Nat} {l : List Int} {k : Nat} (hk : k < l.length) : over (half size l k) (size * k) l[k] size = half size l (k + 1) := by
  have h1 : (layL size (l.take k)).length = size * k := by rw [layL_len, List.length_take, Nat.min_eq_left (by omega)]
  unfold over half
  rw [List.take_left' h1, List.take_succ_eq_append_getElem hk, layL_append]
  have h2 : layL size [l[k]] = putL l[k] size := by simp [layL]
  rw [h2, List.append_assoc, List.append_assoc]
  congr 1
  congr 1
  rw [← h1, List.drop_append, List.drop_replicate]
  have h3 : size * (l.length - k) = size * (l.length - (k + 1)) + size := by rw [← Nat.mul_succ]; congr 1; omega
  rw [List.drop_of_length_le (by omega), List.nil_append]
  congr 1
  omega
theorem made_row (W : World) (base m : Nat) (hb : base ≤ W.heap.size) (hm : m ≤ 100000) : Kd.R (Kd.int .u8) 5 (W.alloc (.cells (madeCells #[.int .u8 0] m) 5)) base (fun b => b = W.heap.size) (.slice (some ⟨W.heap.size, 0, none⟩) m m) (List.replicate m 0) := by
  refine Kd.R_of_own ?_ (fun k hk => by injection hk with hk; exact hk.symm)
  rw [List.length_replicate]
  exact own_made W base 5 .u8 m hb (by omega)
theorem info_u8 : (Try.prog.info? 5).map (fun i => (i.zero, i.size, i.bytes)) = some (some (.int .u8 0), 1, 1) := by kernel_rfl
/-- A part of a row of bytes, from lo to hi. -/
theorem cut_u8 (g n c lo hi : Nat) (h1 : lo < hi) (h2 : hi ≤ n) (hc : n ≤ c) (W : World) : (Instr.slice 33 (.slice (some ⟨g, 0, none⟩) n c) (some (.int .i64 (lo : Int))) (some (.int .i64 (hi : Int))) none).run Try.prog W = .ok (.slice (some ⟨g, lo, none⟩) (hi - lo) (c - lo)) W := by
  obtain ⟨i0, hi0, hz⟩ := Option.map_eq_some_iff.1 info_u8
  simp only [Prod.mk.injEq] at hz
  have h := cut_mid (P := Try.prog) 33 5 .i64 .i64 Try.underlying33 hi0 1 hz.2.1 (some ⟨g, 0, none⟩) n c (lo : Int) (hi : Int) (by omega) (by omega) (by omega) hc W
  have e1 : (hi : Int).toNat - (lo : Int).toNat = hi - lo := by omega
  have e2 : (lo : Int).toNat = lo := by omega
  rw [e1, e2, if_neg (by omega)] at h
  rw [Nat.mul_one, Option.map_some, add_plain] at h
  exact h
theorem fits_eq {n : Int} {size : Nat} (h1 : 1 ≤ size) (h8 : size ≤ 8) (h0 : 0 ≤ n) (h : n < 256 ^ size) : P.field_fits.f n (size : Int) = some true := by
  unfold P.field_fits.f
  by_cases h88 : (size : Int) = 8
  · rw [if_pos h88]
  · rw [if_neg h88]
    have e : wrap64 (8 * (size : Int)) = 8 * (size : Int) := by unfold wrap64; omega
    rw [e, if_pos (by omega)]
    congr 1
    rw [beq_iff_eq]
    unfold shr
    have e2 : min (8 * (size : Int)).toNat IntKind.u64.bits = 8 * size := by have : IntKind.u64.bits = 64 := rfl; omega
    have e3 : (2 : Int) ^ (8 * size) = 256 ^ size := by rw [Int.pow_mul]; rfl
    rw [e2, e3]
    exact Int.ediv_eq_zero_of_lt h0 h
set_option maxHeartbeats 8000000 in
set_option maxRecDepth 100000 in
theorem lay_any (size : Nat) (A0 : Option Addr) (c0 : Nat) (l : List Int) (w : World) (h1 : 1 ≤ size) (h8 : size ≤ 8) (hl : size * l.length ≤ 4096) (hr : Kd.C (Kd.int .u64) w A0 l.length l) (hn : ∀ n ∈ l, 0 ≤ n ∧ n < 256 ^ size) :
    Calls Try.prog 42 #[.int .i64 size, .slice A0 l.length c0] w fun e w' => ∃ v, e = .returned (.tuple #[v, .int .i64 0]) ∧ Kd.R (Kd.int .u8) 5 w' w.heap.size (fun _ => True) v (layL size l) ∧ Below w.heap.size w w' := by
  have HR := Lib.hid hr
  have HN := Lib.hid hn
  clear hr hn
  have hlen : l.length ≤ 4096 := Nat.le_trans (Nat.le_mul_of_pos_left _ (by omega)) hl
  have c1 : decide ((size : Int) < 1) = false := decide_eq_false (by omega)
  have c2 : decide ((size : Int) > 8) = false := decide_eq_false (by omega)
  have hdiv : (l.length : Int) ≤ 4096 / (size : Int) := by
    rw [Int.le_ediv_iff_mul_le (by omega)]
    have : ((size * l.length : Nat) : Int) ≤ 4096 := by exact_mod_cast hl
    rw [Int.mul_comm]; exact_mod_cast this
  have c3 : decide ((l.length : Int) > 4096 / (size : Int)) = false := decide_eq_false (by omega)
  obtain ⟨N, hNe⟩ : ∃ N, size * l.length = N := ⟨_, rfl⟩
  have hw1 : wrap64 ((size : Int) * (l.length : Int)) = (N : Int) := by
    have : (size : Int) * (l.length : Int) = ((size * l.length : Nat) : Int) := by simp
    rw [this, hNe]; unfold wrap64; omega
  have hmk := print_make (P := Try.prog) 33 5 .u8 1 Try.underlying33 (by kernel_rfl) (by decide) N (by omega)
  rw [hNe] at hl
  replace hNe := Lib.hid hNe
  clear hdiv
  go_enter Try.func42, Try.ntmps42
  go_wp2_with fail
  clear c1 c2 c3 hw1 hmk
  go_loopg [29] l.length (fun q i wr => ∃ k : Nat, k + q = l.length ∧ i = .int .i64 (k : Int) ∧ Hid (Kd.R (Kd.int .u8) 5 wr w.heap.size (fun b => b = w.heap.size) (.slice (some ⟨w.heap.size, 0, none⟩) N N) (half size l k)) ∧ Hid (Below w.heap.size w wr))
  case atStart => exact ⟨0, by omega, rfl, Lib.hid (by rw [half_zero, hNe.out]; exact made_row w _ N (Nat.le_refl _) (by omega)), Lib.hid (below_alloc (Below.refl _ _) _)⟩
  case round =>
    obtain ⟨k, hk, rfl, hR, hB⟩ := hrel
    cases gk with
    | zero =>
      obtain rfl : k = l.length := by omega
      have d1 : decide ((l.length : Int) < (l.length : Int)) = false := decide_eq_false (by omega)
      go_wp2_with fail
      go_ret2
      exact ⟨_, rfl, by rw [← half_all]; exact Kd.R_mono hR.out (fun _ _ => trivial), hB.out⟩
    | succ q =>
      have hkl : k < l.length := by omega
      have d1 : decide ((k : Int) < (l.length : Int)) = true := decide_eq_true (by omega)
      have p1 : 0 ≤ (k : Int) := by omega
      have q1 : (k : Int) < (l.length : Int) := by omega
      obtain ⟨ad, e0, hx⟩ := at_int (Kd.C_below HR.out hB.out) k hkl
      cases e0
      obtain ⟨n, hne⟩ : ∃ n, l[k] = n := ⟨_, rfl⟩
      have hnn := HN.out n (by rw [← hne]; exact List.getElem_mem hkl)
      rw [hne] at hx
      have hnx := Lib.hid hne
      have hfit := Lib.hid (fits_eq h1 h8 hnn.1 hnn.2)
      have hn0 := hnn.1
      clear hne hnn
      obtain ⟨K, hKe⟩ : ∃ K, size * k = K := ⟨_, rfl⟩
      have hKN : K + size ≤ N := by
        rw [← hKe, ← hNe.out, ← Nat.mul_succ]; exact Nat.mul_le_mul_left _ hkl
      have m1 : wrap64 ((k : Int) * (size : Int)) = (K : Int) := by
        have : (k : Int) * (size : Int) = ((size * k : Nat) : Int) := by simp [Int.mul_comm]
        rw [this, hKe]; unfold wrap64; omega
      have m2 : wrap64 (((k : Int) + 1) * (size : Int)) = ((K + size : Nat) : Int) := by
        have : ((k : Int) + 1) * (size : Int) = ((size * k + size : Nat) : Int) := by rw [Int.add_mul, Int.one_mul, Int.mul_comm]; simp
        rw [this, hKe]; unfold wrap64; omega
      have hcut := cut_u8 w.heap.size N N K (K + size) (Nat.lt_add_of_pos_right h1) hKN (Nat.le_refl _)
      rw [Nat.add_sub_cancel_left] at hcut
      replace hKe := Lib.hid hKe
      have hhl : Hid ((half size l k).length = N) := Lib.hid (by rw [half_len (by omega), hNe.out])
      go_wp2_with fail
      refine (P.field_fits.calls _ _ true _ hfit.out).mono ?_
      rintro e w1 ⟨rfl, hd⟩
      replace hR := Lib.hid (Kd.R_below hR.out hd.below)
      replace hB := Lib.hid (below_step hB.out hd.below)
      clear hd hx
      go_wp2_with fail
      refine (put_any w.heap.size (fun b => b = w.heap.size) w.heap.size K size N (N - K) n (half size l k) _ (by rw [hhl.out]; exact hR.out) (by rw [hhl.out]; exact hKN) h8 hn0 (by rw [hhl.out]; omega)).mono ?_
      rintro e w2 ⟨rfl, hR2, hg⟩
      replace hB := Lib.hid (pw_below_grown hB.out _ hB.out.size hg (fun b hb => by injection hb with hb; omega))
      rw [hhl.out, ← hKe.out] at hR2
      have hR3 : Hid (Kd.R (Kd.int .u8) 5 w2 w.heap.size (fun b => b = w.heap.size) (.slice (some ⟨w.heap.size, 0, none⟩) N N) (half size l (k + 1))) := Lib.hid (by rw [← half_succ hkl, hnx.out]; exact hR2)
      clear hg hR2
      go_wp2_with fail
      go_roundg q
      case measure => omega
      case rel => exact ⟨k + 1, by omega, by go_num, hR3, hB⟩
end Go.Proofs.Ytpbijdalfeaheaa.Tf

/- field.Fill, and rows of bytes that are copied into. -/
namespace Go.Proofs.Ytpbijdalfeaheaa.Tf
open Go.RowKit Go.Proofs.YtpbijdalfeaheaaW.PrintWords Go.Proofs.YtpbijdalfeaheaaW.PrintLast Go.Proofs.YtpbijdalfeaheaaW.PrintMore
set_option linter.unusedVariables false
set_option linter.unusedSimpArgs false
/-- A block that is a row of bytes, whole. -/
def Bk (W : World) (g : Nat) (xs : List Int) : Prop := W.heap[g]? = some (.cells (nums .u8 xs).toArray 5 (0, 0))
theorem made_nums (m : Nat) : madeCells #[Value.int .u8 0] m = (nums .u8 (List.replicate m 0)).toArray := by
  apply Array.toList_inj.1
  apply List.ext_getElem
  · simp [nums, madeCells]
  · intro i h1 h2
    simp [nums, madeCells, Nat.mod_one]
theorem bk_made (W : World) (m : Nat) : Bk (W.alloc (.cells (madeCells #[.int .u8 0] m) 5)) W.heap.size (List.replicate m 0) := by
  unfold Bk; rw [made_nums]; exact blk_new W _
theorem R_of_bk {W : World} {g : Nat} {xs : List Int} (h : Bk W g xs) {base : Nat} (hb : base ≤ g) (hm : xs.length ≤ 100000) : Kd.R (Kd.int .u8) 5 W base (fun b => b = g) (.slice (some ⟨g, 0, none⟩) xs.length xs.length) xs := by
  refine Kd.R_of_own ⟨by simp [encs], .inr ⟨g, xs.length, (nums .u8 xs).toArray, rfl, hb, h, Nat.le_refl _, by unfold maxLen; omega, by simp [nums], ?_⟩⟩ (fun k hk => by injection hk with hk; exact hk.symm)
  rw [Nat.mul_one]
  exact List.take_of_length_le (by simp [nums])
theorem bk_of_R {W : World} {g n base : Nat} {ok : Nat → Prop} {xs : List Int} (h : Kd.R (Kd.int .u8) 5 W base ok (.slice (some ⟨g, 0, none⟩) n n) xs) : Bk W g xs := by
  obtain rfl : n = xs.length := (Kd.R_reads' h).1
  obtain ⟨h1, h2⟩ := Kd.own_of_R h
  rcases h2 with ⟨h2, _⟩ | ⟨g', cap, cur, e, _, hh, _, _, hs, ht⟩
  · cases h2
  · simp only [Value.slice.injEq, Option.some.injEq, Addr.mk.injEq, and_true, true_and] at e
    obtain ⟨rfl, rfl⟩ := e
    unfold Bk
    rw [hh]
    congr 2
    rw [Nat.mul_one] at ht hs
    rw [List.take_of_length_le (by rw [Array.length_toList, hs]; exact Nat.le_refl _)] at ht
    rw [← Array.toArray_toList (xs := cur), ht]; rfl
theorem splice_nums (xs ys : List Int) (o : Nat) : splice (nums .u8 ys) o (nums .u8 xs) = nums .u8 (splice ys o xs) := by
  simp [splice, nums]
theorem C_src {w : World} {A : Option Addr} {n : Nat} {xs : List Int} (h : Kd.C (Kd.int .u8) w A n xs) : 0 < (nums .u8 xs).length → ∃ ad, A = some ad ∧ ∀ j v, (nums .u8 xs)[j]? = some v → w.cell? (ad.add j) = some v := by
  intro h0
  rw [nums_length] at h0
  obtain ⟨ad, e, _⟩ := at_int h 0 h0
  refine ⟨ad, e, fun j v hj => ?_⟩
  have hjl : j < xs.length := by have := (List.getElem?_eq_some_iff.1 hj).1; simpa [nums] using this
  obtain ⟨ad', e', hc⟩ := at_int h j hjl
  rw [e] at e'; injection e' with e'; subst e'
  rw [hc, ← hj]; simp [nums, hjl]
theorem one_nums (xs : List Int) : ∀ v ∈ nums .u8 xs, v.oneCell' = true := by
  intro v hv
  obtain ⟨x, _, rfl⟩ := List.mem_map.1 hv
  rfl
theorem sz_u8 : (Try.prog.info? 5).map (·.size) = some 1 := by kernel_rfl
theorem splice_fill (xs : List Int) (m : Nat) (h : xs.length ≤ m) : splice (List.replicate m (0 : Int)) 0 xs = xs ++ List.replicate (m - xs.length) 0 := by
  simp [splice]
set_option maxHeartbeats 4000000 in
set_option maxRecDepth 100000 in
theorem fill_any (A0 : Option Addr) (c0 : Nat) (xs : List Int) (m : Nat) (w : World) (hr : Kd.C (Kd.int .u8) w A0 xs.length xs) (h1 : xs.length ≤ m) (h2 : m ≤ 4096) :
    Calls Try.prog 43 #[.slice A0 xs.length c0, .int .i64 m] w fun e w' => ∃ v, e = .returned (.tuple #[v, .int .i64 0]) ∧ Kd.R (Kd.int .u8) 5 w' w.heap.size (fun _ => True) v (xs ++ List.replicate (m - xs.length) 0) ∧ Below w.heap.size w w' := by
  have HR := Lib.hid hr
  clear hr
  have c1 : decide ((m : Int) < 0) = false := decide_eq_false (by omega)
  have c2 : decide ((m : Int) > 4096) = false := decide_eq_false (by omega)
  have c3 : decide ((xs.length : Int) > (m : Int)) = false := decide_eq_false (by omega)
  have hmk := print_make (P := Try.prog) 33 5 .u8 1 Try.underlying33 (by kernel_rfl) (by decide) m (by omega)
  have c4 : decide (m < xs.length) = false := decide_eq_false (by omega)
  have e1 : (nums .u8 xs).length = Nat.min xs.length m := by rw [nums_length]; exact (Nat.min_eq_left h1).symm
  have e2 : Hid (0 < (nums .u8 xs).length → (some (⟨w.heap.size, 0, none⟩ : Addr)) = some ⟨w.heap.size, 0, none⟩ ∧ ∃ ad, A0 = some ad ∧ ∀ j v, (nums .u8 xs)[j]? = some v → (w.alloc (.cells (madeCells #[.int .u8 0] m) 5)).cell? (ad.add j) = some v) := Lib.hid fun h0 => ⟨rfl, C_src (Kd.C_below HR.out (below_alloc (Below.refl _ _) _)) h0⟩
  have e3 : Hid (0 + (nums .u8 xs).length ≤ (nums .u8 (List.replicate m 0)).length) := Lib.hid (by simp [nums]; omega)
  replace e1 := Lib.hid e1
  have e4 : Below w.heap.size w (w.alloc (.cells (madeCells #[.int .u8 0] m) 5)) := below_alloc (Below.refl _ _) _
  replace e4 := Lib.hid e4
  go_enter Try.func43, Try.ntmps43
  go_wp2_with (first | ((with_reducible refine gate_builtin (b := .copy) (xs := #[.tmp 21, .tmp 22]) rfl ?_); refine wpList_copy_splice rfl (.tmp 21) (.tmp 22) 33 33 rfl 5 Try.underlying33 sz_u8 (some ⟨w.heap.size, 0, none⟩) A0 m m xs.length c0 rfl rfl w.heap.size 0 (nums .u8 (List.replicate m 0)) 5 (bk_made w m) (nums .u8 xs) e1.out e2.out e3.out (one_nums xs) w.heap.size w e4.out (Nat.le_refl _) ?_; intro w1 hB1 hb1))
  go_ret2
  have hB2 : Bk w1 w.heap.size (xs ++ List.replicate (m - xs.length) 0) := by
    have := hB1.out
    rw [splice_nums, splice_fill xs m h1] at this
    exact this
  have hl : (xs ++ List.replicate (m - xs.length) (0 : Int)).length = m := by simp; omega
  have hR := R_of_bk hB2 (Nat.le_refl _) (by rw [hl]; omega)
  rw [hl] at hR
  exact ⟨_, rfl, Kd.R_mono hR (fun _ _ => trivial), hb1⟩
end Go.Proofs.Ytpbijdalfeaheaa.Tf

/- sum: the check sum. -/
namespace Go.Proofs.Ytpbijdalfeaheaa.Tf
open Go.RowKit Go.Proofs.YtpbijdalfeaheaaW.PrintWords Go.Proofs.YtpbijdalfeaheaaW.PrintLast Go.Proofs.YtpbijdalfeaheaaW.PrintMore
set_option linter.unusedVariables false
set_option linter.unusedSimpArgs false
def stp (s : Int × Int) (c : Int) : Int × Int := (IntKind.u32.wrap (s.1 + c), IntKind.u32.wrap (s.2 + IntKind.u32.wrap (s.1 + c)))
def stps (xs : List Int) (k : Nat) : Int × Int := (xs.take k).foldl stp (1, 0)
/-- The check sum. -/
def ofB (xs : List Int) : Int := bits .or .u32 ((stps xs xs.length).2.tmod 65521 * 65536 % 4294967296) ((stps xs xs.length).1.tmod 65521)
theorem ofB_range (xs : List Int) : 0 ≤ ofB xs ∧ ofB xs < 4294967296 := by
  unfold ofB Go.bits
  simp only [IntKind.wrap_u32]
  omega
theorem stps_succ {xs : List Int} {k : Nat} (h : k < xs.length) : stps xs (k + 1) = stp (stps xs k) xs[k] := by
  unfold stps
  rw [List.take_succ_eq_append_getElem h, List.foldl_append]; rfl
set_option maxHeartbeats 4000000 in
set_option maxRecDepth 100000 in
theorem more_any (A0 : Option Addr) (c0 : Nat) (xs : List Int) (w : World) (hr : Kd.C (Kd.int .u8) w A0 xs.length xs) (hb : ∀ x ∈ xs, 0 ≤ x ∧ x < 256) (hc0 : xs.length ≤ c0) (h1 : xs.length ≤ 3000) :
    Calls Try.prog 66 #[.int .u32 1, .slice A0 xs.length c0] w fun e w' => e = .returned (.int .u32 (ofB xs)) ∧ Drawn0 w w' := by
  have HR := Lib.hid hr
  have HB := Lib.hid hb
  clear hr hb
  have ha : bits .and .u32 1 65535 = 1 := by decide
  go_enter Try.func66, Try.ntmps66
  go_wp2_with fail
  apply wp_scope_straight
  go_wp2_with fail
  apply wp_label
  go_wp2_with fail
  clear ha
  go_loopg [5, 6, 25] xs.length (fun q lo hi i wr => ∃ k : Nat, k + q = xs.length ∧ lo = .int .u32 (stps xs k).1 ∧ hi = .int .u32 (stps xs k).2 ∧ i = .int .i64 (k : Int) ∧ Drawn0 w wr)
  case atStart => exact ⟨0, by omega, by first | rfl | decide, rfl, rfl, Drawn0.refl _⟩
  case round =>
    obtain ⟨k, hk, rfl, rfl, rfl, hD⟩ := hrel
    replace hD := Lib.hid hD
    cases gk with
    | zero =>
      obtain rfl : k = xs.length := by omega
      have d1 : decide ((xs.length : Int) < (xs.length : Int)) = false := decide_eq_false (by omega)
      go_wp2_with fail
      all_goals (go_ret; exact ⟨rfl, hD.out⟩)
    | succ q =>
      have hkl : k < xs.length := by omega
      have d1 : decide ((k : Int) < (xs.length : Int)) = true := decide_eq_true (by omega)
      have p1 : 0 ≤ (k : Int) := by omega
      have q1 : (k : Int) < (xs.length : Int) := by omega
      obtain ⟨ad, e0, hx⟩ := at_int (Kd.C_below HR.out hD.out.below) k hkl
      cases e0
      have hc := HB.out _ (List.getElem_mem hkl)
      have hs := Lib.hid (stps_succ hkl)
      obtain ⟨c, hce⟩ : ∃ c, xs[k] = c := ⟨_, rfl⟩
      rw [hce] at hx hc hs
      clear hce
      obtain ⟨hc0', hc1'⟩ := hc
      have hwc : IntKind.u32.wrap c = c := by rw [IntKind.wrap_u32]; omega
      go_wp2_with fail
      go_roundg q
      case measure => omega
      case rel =>
        refine ⟨k + 1, by omega, ?_, ?_, by go_num, hD.out⟩
        · rw [hs.out]; rfl
        · rw [hs.out]; rfl
theorem of_any (A0 : Option Addr) (c0 : Nat) (xs : List Int) (w : World) (hr : Kd.C (Kd.int .u8) w A0 xs.length xs) (hb : ∀ x ∈ xs, 0 ≤ x ∧ x < 256) (hc0 : xs.length ≤ c0) (h1 : xs.length ≤ 3000) :
    Calls Try.prog 56 #[.slice A0 xs.length c0] w fun e w' => e = .returned (.int .u32 (ofB xs)) ∧ Drawn0 w w' := by
  have HM := Lib.hid (more_any A0 c0 xs w hr hb hc0 h1)
  clear hr hb
  go_enter Try.func56, Try.ntmps56
  go_wp2_with fail
  refine HM.out.mono ?_
  rintro e w1 ⟨rfl, hd⟩
  replace hd := Lib.hid hd
  go_wp2_with fail
  go_ret
  exact ⟨rfl, hd.out⟩
end Go.Proofs.Ytpbijdalfeaheaa.Tf

/- sum.Seal. -/
namespace Go.Proofs.Ytpbijdalfeaheaa.Tf
open Go.RowKit Go.Proofs.YtpbijdalfeaheaaW.PrintWords Go.Proofs.YtpbijdalfeaheaaW.PrintLast Go.Proofs.YtpbijdalfeaheaaW.PrintMore
set_option linter.unusedVariables false
set_option linter.unusedSimpArgs false
/-- A block of numbers is read. -/
theorem C_of_blk {W : World} {g : Nat} {k : IntKind} {t : TypeId} {xs : List Int} (h : W.heap[g]? = some (.cells (nums k xs).toArray t (0, 0))) (hm : xs.length ≤ 100000) : Kd.C (Kd.int k) W (some ⟨g, 0, none⟩) xs.length xs := by
  refine ⟨rfl, by omega, fun _ => ⟨_, rfl, fun j p hj => ⟨[.int k p], rfl, rfl, fun i u hi => ?_⟩⟩⟩
  have hi0 : i = 0 := by have := (List.getElem?_eq_some_iff.1 hi).1; simp at this; exact this
  subst hi0
  have hs : (Kd.int k).sz = 1 := rfl
  rw [add_plain, hs, Nat.mul_one, Nat.add_zero, blk_cell h j]
  simp at hi
  subst hi
  simp [nums, hj]
def sealL (xs : List Int) : List Int := xs ++ putL (ofB xs) 4
theorem splice_head (xs : List Int) : splice (List.replicate (xs.length + 4) (0 : Int)) 0 xs = xs ++ List.replicate 4 0 := by
  rw [splice_fill xs _ (by omega), Nat.add_sub_cancel_left]
theorem splice_tail (xs ys : List Int) (h : ys.length = 4) : splice (xs ++ List.replicate 4 (0 : Int)) xs.length ys = xs ++ ys := by
  unfold splice
  rw [List.take_left' rfl, List.drop_of_length_le (by simp; omega), List.append_nil]
/-- A read row of bytes is copied into a whole row, as an equation on the run. -/
theorem copy_in {w0 : World} (W : World) (ty : TypeId) (g o dLen dCap : Nat) (A : Option Addr) (n c : Nat) (ys xs : List Int) (hB : Bk W g ys) (hC : Kd.C (Kd.int .u8) W A n xs) (hn : xs.length = n) (h0 : 0 < n) (hmin : xs.length = Nat.min n dLen) (hfit : o + xs.length ≤ ys.length) (hg : w0.heap.size ≤ g) (hb : Below w0.heap.size w0 W) :
    ∃ w4, (Builtin.copy_ #[33, 33] ty #[.slice (some ⟨g, o, none⟩) dLen dCap, .slice A n c]).run Try.prog W = .ok (goInt xs.length) w4 ∧ Bk w4 g (splice ys o xs) ∧ Below w0.heap.size w0 w4 := by
  obtain ⟨ad, rfl, hsrc⟩ := C_src hC (by rw [nums_length]; omega)
  have h := run_copy_row (P := Try.prog) W 33 33 ty 5 g o dLen dCap ad n c (nums .u8 ys).toArray 5 (nums .u8 xs) Try.underlying33 sz_u8 hB (by rw [nums_length]; exact hmin) hsrc (by simpa [nums] using hfit) (one_nums xs)
  rw [nums_length] at h
  refine ⟨_, h, ?_, below_setRow hb hg _⟩
  unfold Bk
  rw [← splice_nums]
  have := setRow_heap W g (nums .u8 ys).toArray ((nums .u8 ys).toArray.toList.take o ++ nums .u8 xs ++ (nums .u8 ys).toArray.toList.drop (o + xs.length)).toArray 5 (0, 0) hB
  rw [this]
  simp [splice, nums_length]
set_option maxHeartbeats 4000000 in
set_option maxRecDepth 100000 in
theorem seal_any (A0 : Option Addr) (c0 : Nat) (xs : List Int) (w : World) (hr : Kd.C (Kd.int .u8) w A0 xs.length xs) (hb : ∀ x ∈ xs, 0 ≤ x ∧ x < 256) (hc0 : xs.length ≤ c0) (h1 : xs.length ≤ 3000) :
    Calls Try.prog 44 #[.slice A0 xs.length c0] w fun e w' => ∃ v, e = .returned v ∧ Kd.R (Kd.int .u8) 5 w' w.heap.size (fun _ => True) v (sealL xs) ∧ Below w.heap.size w w' := by
  have HR := Lib.hid hr
  have HB := Lib.hid hb
  clear hr hb
  have hmk : ∀ W : World, (Instr.makeSlice 33 (.int .i64 ((xs.length : Int) + 4)) (.int .i64 ((xs.length : Int) + 4))).run Try.prog W = .ok (.slice (some ⟨W.heap.size, 0, none⟩) (xs.length + 4) (xs.length + 4)) (W.alloc (.cells (madeCells #[.int .u8 0] (xs.length + 4)) 5)) := by
    have := print_make (P := Try.prog) 33 5 .u8 1 Try.underlying33 (by kernel_rfl) (by decide) (xs.length + 4) (by omega)
    intro W
    have h := this W
    simpa using h
  have e1 : Hid ((nums .u8 xs).length = Nat.min xs.length (xs.length + 4)) := Lib.hid (by rw [nums_length]; exact (Nat.min_eq_left (by omega)).symm)
  have e2 : Hid (0 < (nums .u8 xs).length → (some (⟨w.heap.size, 0, none⟩ : Addr)) = some ⟨w.heap.size, 0, none⟩ ∧ ∃ ad, A0 = some ad ∧ ∀ j v, (nums .u8 xs)[j]? = some v → (w.alloc (.cells (madeCells #[.int .u8 0] (xs.length + 4)) 5)).cell? (ad.add j) = some v) := Lib.hid fun h0 => ⟨rfl, C_src (Kd.C_below HR.out (below_alloc (Below.refl _ _) _)) h0⟩
  have e3 : Hid (0 + (nums .u8 xs).length ≤ (nums .u8 (List.replicate (xs.length + 4) 0)).length) := Lib.hid (by simp [nums])
  have e4 : Hid (Below w.heap.size w (w.alloc (.cells (madeCells #[.int .u8 0] (xs.length + 4)) 5))) := Lib.hid (below_alloc (Below.refl _ _) _)
  go_enter Try.func44, Try.ntmps44
  go_wp2_with (first | ((with_reducible refine gate_builtin (b := .copy) (xs := #[.tmp 10, .tmp 11]) rfl ?_); refine wpList_copy_splice rfl (.tmp 10) (.tmp 11) 33 33 rfl 5 Try.underlying33 sz_u8 (some ⟨w.heap.size, 0, none⟩) A0 (xs.length + 4) (xs.length + 4) xs.length c0 rfl rfl w.heap.size 0 (nums .u8 (List.replicate (xs.length + 4) 0)) 5 (bk_made w _) (nums .u8 xs) e1.out e2.out e3.out (one_nums xs) w.heap.size w e4.out (Nat.le_refl _) ?_; intro w1 hB1 hb1))
  have hB2 : Bk w1 w.heap.size (xs ++ List.replicate 4 0) := by
    have := hB1.out
    rw [splice_nums, splice_head] at this
    exact this
  clear hB1 e1 e2 e3 e4 hmk
  obtain ⟨O, hO⟩ : ∃ O, ofB xs = O := ⟨_, rfl⟩
  have hOr := ofB_range xs
  rw [hO] at hOr
  have hcv : IntKind.u64.wrap O = O := by
    simp [IntKind.wrap, IntKind.bits, IntKind.signed]; omega
  have hof := Lib.hid (of_any A0 c0 xs w1 (Kd.C_below HR.out hb1) HB.out hc0 h1)
  rw [hO] at hof
  replace hb1 := Lib.hid hb1
  replace hB2 := Lib.hid hB2
  replace hOr := Lib.hid hOr
  replace hO := Lib.hid hO
  refine hof.out.mono ?_
  rintro e w2 ⟨rfl, hd⟩
  replace hB2 := Lib.hid (show Bk w2 w.heap.size (xs ++ List.replicate 4 0) from blk_below hB2.out hd.below)
  replace hb1 := Lib.hid (below_step hb1.out hd.below)
  clear hd hof
  go_wp2_with fail
  have hblk := blk_new w2 (.cells (nums .u64 [O]).toArray 23)
  have hlay := lay_any 4 (some ⟨w2.heap.size, 0, none⟩) 1 [O] (w2.alloc (.cells (nums .u64 [O]).toArray 23)) (by omega) (by omega) (by simp) (C_of_blk hblk (by simp)) (fun n hn => by rw [List.mem_singleton.1 hn]; exact ⟨hOr.out.1, Int.lt_of_lt_of_le hOr.out.2 (by decide)⟩)
  refine hlay.mono ?_
  rintro e w3 ⟨v3, rfl, hR3, hb3⟩
  obtain ⟨A3, c3, rfl, hc3, hr3⟩ := Kd.R_reads hR3
  replace hB2 := Lib.hid (show Bk w3 w.heap.size (xs ++ List.replicate 4 0) from blk_below (blk_alloc hB2.out _) hb3)
  replace hb1 := Lib.hid (below_step (below_alloc hb1.out _) hb3)
  have hl4 : layL 4 [O] = putL O 4 := by simp [layL]
  rw [hl4] at hr3 hc3
  rw [hl4, putL_len]
  rw [putL_len] at hr3 hc3
  replace hr3 := Lib.hid hr3
  clear hR3 hb3 hlay hblk
  obtain ⟨w4, hcp, hB4, hb4⟩ := copy_in w3 3 w.heap.size xs.length 4 4 A3 4 c3 (xs ++ List.replicate 4 0) (putL O 4) hB2.out hr3.out (putL_len _ _) (by decide) (by rw [putL_len]; rfl) (by simp [putL_len]) (Nat.le_refl _) hb1.out
  rw [putL_len] at hcp
  replace hB4 := Lib.hid hB4
  replace hb4 := Lib.hid hb4
  go_wp2_with fail
  go_ret
  have hB5 : Bk w4 w.heap.size (sealL xs) := by
    have := hB4.out
    rw [splice_tail _ _ (putL_len _ _)] at this
    unfold sealL; rw [hO.out]; exact this
  have hl : (sealL xs).length = xs.length + 4 := by simp [sealL, putL_len]
  have hR := R_of_bk hB5 (Nat.le_refl _) (by rw [hl]; omega)
  rw [hl] at hR
  exact ⟨_, rfl, Kd.R_mono hR (fun _ _ => trivial), hb4.out⟩
end Go.Proofs.Ytpbijdalfeaheaa.Tf

/- What was laid is got. Plain. -/
namespace Go.Proofs.Ytpbijdalfeaheaa.Tf
open Go.RowKit Go.Proofs.YtpbijdalfeaheaaW.PrintWords Go.Proofs.YtpbijdalfeaheaaW.PrintLast Go.Proofs.YtpbijdalfeaheaaW.PrintMore
set_option linter.unusedVariables false
set_option linter.unusedSimpArgs false
theorem wraps_u64 (n : Int) (h₀ : 0 ≤ n) (h₁ : n < 2 ^ 64) : IntKind.u64.wrap n = n := by
  simp [IntKind.wrap, IntKind.bits, IntKind.signed]; omega
theorem or_comm64 (x y : Int) (hx : 0 ≤ x) (hx1 : x < 2 ^ 64) (hy : 0 ≤ y) (hy1 : y < 2 ^ 64) : bits .or .u64 x y = bits .or .u64 y x := by
  obtain ⟨a, rfl⟩ := Int.eq_ofNat_of_zero_le hx
  obtain ⟨b, rfl⟩ := Int.eq_ofNat_of_zero_le hy
  have ha : a < 2 ^ 64 := by exact_mod_cast hx1
  have hb : b < 2 ^ 64 := by exact_mod_cast hy1
  rw [(bits_nat .u64 64 (by decide) wraps_u64 a b ha hb).2, (bits_nat .u64 64 (by decide) wraps_u64 b a hb ha).2, Nat.or_comm]
theorem putL_get (n : Int) : ∀ (k j : Nat), j < k → (putL n k)[j]? = some (n / 256 ^ j % 256) := by
  intro k
  induction k with
  | zero => intro j h; omega
  | succ k ih =>
    intro j h
    unfold putL
    by_cases hj : j < k
    · rw [List.getElem?_append_left (by rw [putL_len]; exact hj), ih j hj]
    · obtain rfl : j = k := by omega
      rw [List.getElem?_append_right (by rw [putL_len]; exact Nat.le_refl _), putL_len, Nat.sub_self]; rfl
theorem low_step (n : Int) (h0 : 0 ≤ n) (j : Nat) (hj : j < 8) : bits .or .u64 (n % 256 ^ j) (shl .u64 (IntKind.u64.wrap (n / 256 ^ j % 256)) (8 * (j : Int))) = n % 256 ^ (j + 1) := by
  have hb : 0 ≤ n / 256 ^ j % 256 ∧ n / 256 ^ j % 256 < 256 := ⟨Int.emod_nonneg _ (by decide), Int.emod_lt_of_pos _ (by decide)⟩
  obtain ⟨b, hbe⟩ : ∃ b, n / 256 ^ j % 256 = b := ⟨_, rfl⟩
  rw [hbe] at hb ⊢
  have hp : (0 : Int) < 256 ^ j := Int.pow_pos (by decide)
  have e1 : IntKind.u64.wrap b = b := wraps_u64 b hb.1 (by omega)
  have e2 : (256 : Int) ^ j = 2 ^ (8 * j) := by rw [Int.pow_mul]; rfl
  have e3 : min (8 * (j : Int)).toNat IntKind.u64.bits = 8 * j := by have : IntKind.u64.bits = 64 := rfl; omega
  have hlow : 0 ≤ n % 256 ^ j ∧ n % 256 ^ j < 256 ^ j := ⟨Int.emod_nonneg _ (by omega), Int.emod_lt_of_pos _ hp⟩
  have hjp : (256 : Int) ^ (j + 1) ≤ 2 ^ 64 := by
    rcases (show j = 0 ∨ j = 1 ∨ j = 2 ∨ j = 3 ∨ j = 4 ∨ j = 5 ∨ j = 6 ∨ j = 7 by omega) with h | h | h | h | h | h | h | h <;> subst h <;> decide
  rw [Int.pow_succ] at hjp
  have hhi : 0 ≤ b * 256 ^ j ∧ b * 256 ^ j ≤ 255 * 256 ^ j := ⟨Int.mul_nonneg hb.1 (by omega), Int.mul_le_mul_of_nonneg_right (by omega) (by omega)⟩
  unfold shl
  rw [e1, e3, ← e2, wraps_u64 (b * 256 ^ j) hhi.1 (by omega)]
  rw [or_comm64 _ _ hlow.1 (by omega) hhi.1 (by omega)]
  rw [bits_join .u64 64 (by decide) wraps_u64 (8 * j) (b * 256 ^ j) (n % 256 ^ j) hhi.1 (by rw [← e2]; exact Int.mul_emod_left _ _) (by omega) hlow.1 (by rw [← e2]; exact hlow.2) (by omega)]
  rw [Int.pow_succ, ← hbe]
  obtain ⟨m, rfl⟩ := Int.eq_ofNat_of_zero_le h0
  have h := congrArg (fun z : Nat => (z : Int)) (@Nat.mod_mul (256 ^ j) 256 m)
  simp only [Int.natCast_add, Int.natCast_mul, Int.natCast_emod, Int.natCast_ediv, Int.natCast_pow] at h
  have h9 : ((256 : Nat) : Int) = 256 := rfl
  rw [h9] at h
  rw [h, Int.add_comm, Int.mul_comm]
theorem get_l0 (n : Int) (h0 : 0 ≤ n) (size : Nat) (hs : size ≤ 8) : ∀ (d j k : Nat), d = size - j → j ≤ size → d < k → P.field_get.l0 k (putL n size) (n % 256 ^ j) (size : Int) (j : Int) = some (n % 256 ^ size) := by
  intro d
  induction d with
  | zero =>
    intro j k hd hj hk
    obtain ⟨k, rfl⟩ : ∃ m, k = m + 1 := ⟨k - 1, by omega⟩
    obtain rfl : j = size := by omega
    simp only [P.field_get.l0]
    rw [if_neg (by omega)]
  | succ d ih =>
    intro j k hd hj hk
    obtain ⟨k, rfl⟩ : ∃ m, k = m + 1 := ⟨k - 1, by omega⟩
    have hj8 : j < 8 := by omega
    have g1 : d = size - (j + 1) := by omega
    have g2 : j + 1 ≤ size := by omega
    have g3 : d < k := by omega
    have q1 : (j : Int) < (size : Int) := by omega
    have q2 : 0 ≤ (j : Int) := by omega
    have q4 : 0 ≤ 8 * (j : Int) := by omega
    have w1 : wrap64 (8 * (j : Int)) = 8 * (j : Int) := by unfold wrap64; omega
    have w2 : wrap64 ((j : Int) + 1) = ((j + 1 : Nat) : Int) := by unfold wrap64; omega
    have hr : rd (putL n size) (j : Int) = n / 256 ^ j % 256 := by
      unfold rd
      rw [Int.toNat_natCast, List.getD_eq_getElem?_getD, putL_get n size j g2]; rfl
    have q3 : (j : Int) < ((putL n size).length : Int) := by rw [putL_len]; exact q1
    simp only [P.field_get.l0]
    rw [if_pos q1, if_pos q2, if_pos q3, w1, if_pos q4, w2, hr, low_step n h0 j hj8]
    exact ih (j + 1) k g1 g2 g3
theorem get_put (n : Int) (h0 : 0 ≤ n) (size : Nat) (hs : size ≤ 8) (h : n < 256 ^ size) : P.field_get.f 9 (putL n size) = some n := by
  unfold P.field_get.f
  rw [putL_len]
  have h1 := get_l0 n h0 size hs size 0 9 rfl (Nat.zero_le _) (by clear h; omega)
  have e1 : n % 256 ^ 0 = 0 := by rw [Int.pow_zero, Int.emod_one]
  have e2 : n % 256 ^ size = n := Int.emod_eq_of_lt h0 h
  rw [e1, e2] at h1
  exact h1
end Go.Proofs.Ytpbijdalfeaheaa.Tf
