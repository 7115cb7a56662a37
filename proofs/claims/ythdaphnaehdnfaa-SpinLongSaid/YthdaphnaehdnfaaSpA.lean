/- The functions of package spin that compute with floats: what each call gives for small whole numbers. Conditions: the numbers are small. -/
import Derived.Test.YthdaphnaehdnfaaProg
import Derived.Test.YthdaphnaehdnfaaFlB
import Derived.WalkKit
import Derived.WalkSpells
import Derived.WalkLawsBesides
import Derived.Deep.QuietTactic
import Derived.BigQuiet
import Derived.Laws.Externs
import Derived.KernelRfl
import Derived.Lib.Hide
namespace Go.Proofs.Ythdaphnaehdnfaa.Sp
open Go.RowKit Go.Proofs.Ythdaphnaehdnfaa.Fl
open Ieee (Datum Toward double)

theorem cut_toward_zero (s : Bool) (n d : Nat) : Toward.zero.cut s n d = n / 2 ^ d := by
  have hlt := @Nat.lt_log2_self n
  unfold Toward.cut
  simp only [Nat.shiftLeft_eq, Nat.one_mul]
  by_cases h : d ≤ n.log2 + 2
  · rw [Nat.min_eq_left h]; rfl
  · rw [Nat.min_eq_right (by omega)]
    have h1 : n < 2 ^ (n.log2 + 2) := Nat.lt_of_lt_of_le hlt (Nat.pow_le_pow_right (by decide) (by omega))
    have h2 : n < 2 ^ d := Nat.lt_of_lt_of_le h1 (Nat.pow_le_pow_right (by decide) (by omega))
    rw [Nat.div_eq_of_lt h1, Nat.div_eq_of_lt h2]; rfl

theorem rep_toInt {d : Datum} {n : Int} (h : Rep d n) : d.toInt .zero = some n := by
  obtain ⟨s, m, e, rfl, h2, _⟩ := h.out
  have hm : m = n.natAbs * 2 ^ e := by
    have := sgn_abs s m
    rw [h2, Int.natAbs_mul, P2_nat] at this; exact this.symm
  unfold Datum.toInt Datum.integral
  have e1 : (-(e : Int)).toNat = 0 := by omega
  have e2 : (- -(e : Int)).toNat = e := by omega
  have e3 : m / 2 ^ e = n.natAbs := by rw [hm]; exact Nat.mul_div_cancel _ (Nat.two_pow_pos e)
  simp only [e1, e2, Nat.shiftLeft_eq, Nat.pow_zero, Nat.mul_one, cut_toward_zero, e3, signed_eq]
  have h1 : P2 0 = 1 := rfl
  rw [h1, Int.mul_one]
  congr 1
  have hp := P2_pos e
  have h3 : sgn s (n.natAbs : Int) * P2 e = n * P2 e := by rw [← sgn_mul, ← cast_P2, ← hm, h2]
  exact Int.eq_of_mul_eq_mul_right (by omega) h3

set_option maxRecDepth 100000 in
theorem toInt_fl {n : Int} (h : n.natAbs < 2 ^ 53) : floatToIntVal .f64 (fl n) .i64 = some n := by
  unfold floatToIntVal
  have : (FloatKind.f64.decode (fl n)).toInt .zero = some n := rep_toInt (rep_read h)
  rw [this]
  have h2 : IntKind.min .i64 ≤ n ∧ n ≤ IntKind.max .i64 := by
    have e1 : IntKind.min .i64 = -9223372036854775808 := by decide
    have e2 : IntKind.max .i64 = 9223372036854775807 := by decide
    rw [e1, e2]; omega
  simp only [if_pos h2]

/-- math.archFloor of a number. -/
theorem archFloor_run (x : Nat) (s : Bool) (m : Nat) (i : Int) (h : double.read x = .number s m i) (w : World) :
    (callFunc 31 #[.float .f64 x]).run Try.prog w = .ok (.value (.float .f64 (double.write ((Datum.number s m i).integral .down)))) w := by
  rw [run_callFunc_extern Try.func31 (by kernel_rfl) (by kernel_rfl) (by kernel_rfl) (e := Extern.MathFloor.toIntegral "math.archFloor" .down) (by kernel_rfl)]
  have hd : FloatKind.f64.decode x = .number s m i := h
  have e1 : Extern.MathFloor.toIntegral "math.archFloor" .down #[.float .f64 x] = (match FloatKind.f64.decode x with
    | .nan s t =>
      if FloatKind.f64.format.quiet t = t then pure (.float .f64 x) else do
      let kept ← choose (.extern "math.Floor,Ceil,Trunc,RoundToEven.signallingNaN kept" 2)
      pure (.float .f64 (if kept == 1 then x else FloatKind.f64.encode (.nan s (FloatKind.f64.format.quiet t))))
    | d => pure (.float .f64 (FloatKind.f64.encode (d.integral .down)))) := rfl
  rw [e1, hd]
  rfl

set_option maxHeartbeats 400000 in
theorem floor_any (x : Nat) (s : Bool) (m : Nat) (i : Int) (y : Nat) (h : double.read x = .number s m i) (hy : double.write ((Datum.number s m i).integral .down) = y) (w : World) :
    Calls Try.prog 30 #[.float .f64 x] w fun e w' => e = .returned (.float .f64 y) ∧ w' = w := by
  have hx := archFloor_run x s m i h
  rw [hy] at hx
  clear hy h
  go_enter Try.func30, Try.ntmps30
  go_wp2
  go_ret
  exact ⟨rfl, rfl⟩

theorem fl257_word : fl 257 = 4643228808005025792 := by decide

set_option maxHeartbeats 400000 in
/-- spin.rest of a small whole number. -/
theorem rest_any (f : Int) (hf : f.natAbs < 262144) (w : World) :
    Calls Try.prog 29 #[.float .f64 (fl f)] w fun e w' => e = .returned (.float .f64 (fl (f % 257))) ∧ w' = w := by
  obtain ⟨r, hr, s, m, i, h1, h2⟩ := fl_floor f hf
  rw [fl257_word] at hr
  have hq := fun t w => run_float_arith (P := Try.prog) w .quo t .f64 _ _ _ hr
  have hm : floatBits .mul .f64 4643228808005025792 (fl (f / 257)) = some (fl (257 * (f / 257))) := by
    rw [← fl257_word]; exact fl_mul (by decide) (by omega) (by omega) (.inr (by decide))
  have hs : floatBits .sub .f64 (fl f) (fl (257 * (f / 257))) = some (fl (f % 257)) := by
    rw [fl_sub (by omega) (by omega), show f - 257 * (f / 257) = f % 257 by omega]
  have hm' := fun t w => run_float_arith (P := Try.prog) w .mul t .f64 _ _ _ hm
  have hs' := fun t w => run_float_arith (P := Try.prog) w .sub t .f64 _ _ _ hs
  have H1 := Lib.hid h1
  have H2 := Lib.hid h2
  clear hr hm hs h1 h2 hf
  go_enter Try.func29, Try.ntmps29
  go_wp2_with (go_at_call 30; refine (floor_any _ s m i _ H1.out H2.out _).mono ?_; rintro e w' ⟨rfl, rfl⟩)
  go_ret
  exact ⟨rfl, rfl⟩

end Go.Proofs.Ythdaphnaehdnfaa.Sp
