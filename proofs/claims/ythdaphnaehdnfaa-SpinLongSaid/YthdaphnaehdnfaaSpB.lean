/- spin.part, of, norm, back: what each call gives, as whole numbers. Conditions: the numbers in floats are small. -/
import Derived.Test.YthdaphnaehdnfaaSpA
namespace Go.Proofs.Ythdaphnaehdnfaa.Sp
open Go.RowKit Go.Proofs.Ythdaphnaehdnfaa.Fl
open Ieee (Datum Toward double)

theorem floatOf_fl (n : Int) : floatOfInt .f64 n = fl n := rfl

theorem tmod_cases (n : Int) : n.tmod 257 = n % 257 ∨ n.tmod 257 = n % 257 - 257 := by
  obtain ⟨m, rfl | rfl⟩ := Int.eq_nat_or_neg n
  · left; rfl
  · rw [Int.neg_tmod]
    have : (m : Int).tmod 257 = (m : Int) % 257 := rfl
    omega

set_option maxHeartbeats 400000 in
theorem part_any (n : Int) (w : World) :
    Calls Try.prog 28 #[.int .i64 n] w fun e w' => e = .returned (.float .f64 (fl (n % 257))) ∧ w' = w := by
  have ht := tmod_cases n
  have hb : (n.tmod 257).natAbs < 262144 := by omega
  have hmod : n.tmod 257 % 257 = n % 257 := by omega
  clear ht
  have H := Lib.hid hmod
  have hc := floatOf_fl (n.tmod 257)
  have HB := Lib.hid hb
  clear hb hmod
  go_enter Try.func28, Try.ntmps28
  go_wp2_with (go_at_call 29; refine (rest_any _ HB.out _).mono ?_; rintro e w' ⟨rfl, rfl⟩)
  go_ret
  exact ⟨congrArg (fun z => Ending.returned (.float .f64 (fl z))) H.out, rfl⟩

set_option maxHeartbeats 400000 in
theorem norm_any (x y : Int) (hx : x.natAbs < 262144) (hy : y.natAbs < 262144) (w : World) :
    Calls Try.prog 25 #[.complex .f64 (fl x) (fl y)] w fun e w' => e = .returned (.complex .f64 (fl (x % 257)) (fl (y % 257))) ∧ w' = w := by
  have HX := Lib.hid hx
  have HY := Lib.hid hy
  clear hx hy
  go_enter Try.func25, Try.ntmps25
  go_wp2_with fail
  refine (rest_any _ HX.out _).mono ?_; rintro e w' ⟨rfl, rfl⟩
  go_wp2_with fail
  refine (rest_any _ HY.out _).mono ?_; rintro e w' ⟨rfl, rfl⟩
  go_wp2
  go_ret
  exact ⟨rfl, rfl⟩

set_option maxHeartbeats 400000 in
theorem back_any (x y : Int) (hx : x.natAbs < 262144) (hy : y.natAbs < 262144) (w : World) :
    Calls Try.prog 26 #[.complex .f64 (fl x) (fl y)] w fun e w' => e = .returned (.agg #[.int .i64 x, .int .i64 y]) ∧ Below w.heap.size w w' := by
  have cx := fun w => run_convert_float_int (P := Try.prog) w 44 3 .f64 .i64 (fl x) x (by rw [Try.underlying44]; rfl) Try.underlying3 (toInt_fl (by omega))
  have cy := fun w => run_convert_float_int (P := Try.prog) w 44 3 .f64 .i64 (fl y) y (by rw [Try.underlying44]; rfl) Try.underlying3 (toInt_fl (by omega))
  clear hx hy
  go_enter Try.func26, Try.ntmps26
  go_wp2
  exact bodyPost_ret (v := .agg #[.int .i64 x, .int .i64 y]) (by simp [results, Try.results26, go_sem]) rfl ⟨rfl, (Below.refl _ _).alloc (Nat.le_refl _) _⟩

set_option maxHeartbeats 400000 in
theorem of_any (x y : Int) (w : World) :
    Calls Try.prog 24 #[.agg #[.int .i64 x, .int .i64 y]] w fun e w' => e = .returned (.complex .f64 (fl (x % 257)) (fl (y % 257))) ∧ Below w.heap.size w w' := by
  go_enter Try.func24, Try.ntmps24
  go_wp2_with fail
  go_quiet ((go_at_call 28; exact Calls.quiet_of_same (part_any _ _)))
  go_wp2
  go_ret
  exact ⟨rfl, below_drewN ((Below.refl _ _).alloc (Nat.le_refl _) _) _⟩

end Go.Proofs.Ythdaphnaehdnfaa.Sp
