/- strings.IndexRune of the two bytes 0 and '/', at a rune past ASCII: it is not there. -/
import Derived.Test.YtljddpnnfdaplaaShelf
import Derived.WalkKit
import Derived.WalkSpells
import Derived.WalkLawsBesides
import Derived.Laws.RangeAny
import Derived.Laws.Runes
import Derived.Deep.LoopGhost
import Derived.KernelRfl
import Derived.Lib.Hide
import Derived.Deep.QuietTactic
import Derived.BigQuiet
namespace Go.Proofs.Ytljddpnnfdaplaa.Rt
open Go.RowKit Go.Lib

theorem iter_below (w : World) (s : ByteArray) (p : Nat) : Below w.heap.size w (w.iter s p) := (Below.refl _ _).alloc (Nat.le_refl _) _

theorem valid_eq (r : Int) : Lib.validRune r = Utf8.valid r := by
  unfold Lib.validRune Utf8.valid
  rw [Bool.eq_iff_iff]
  simp only [decide_eq_true_eq, Bool.or_eq_true, Bool.and_eq_true]
  omega

set_option maxHeartbeats 2000000 in
set_option maxRecDepth 1000000 in
theorem idx_invalid (r : Int) (h0 : 128 ≤ r) (h1 : r ≠ 65533) (hv : Utf8.valid r = false) (w : World) :
    Calls Try.prog 31 #[.string ⟨#[0, 47]⟩, .int .i32 r] w fun e w' => e = .returned (.int .i64 (-1)) ∧ w' = w := by
  have h2 : (r == 65533) = false := beq_eq_false_iff_ne.2 h1
  rw [← valid_eq] at hv
  clear h1
  go_enter Try.func31, Try.ntmps31
  go_wp2_with fail
  refine (Try.utf8_ValidRune r w).mono ?_
  rintro e w' ⟨rfl, hw⟩
  rw [hw, hv]
  go_wp2
  go_ret
  exact ⟨rfl, rfl⟩

set_option maxHeartbeats 2000000 in
set_option maxRecDepth 1000000 in
theorem idx_error (w : World) :
    Calls Try.prog 31 #[.string ⟨#[0, 47]⟩, .int .i32 65533] w fun e w' => e = .returned (.int .i64 (-1)) ∧ Below w.heap.size w w' := by
  go_enter Try.func31, Try.ntmps31
  go_wp2_with fail
  go_loopg [5, 6] 2 (fun g _ _ wx => ∃ i : Nat, i + g = 2 ∧ wx = w.iter ⟨#[0, 47]⟩ i)
  case atStart => exact ⟨0, rfl, rfl⟩
  case round =>
    obtain ⟨i, hig, rfl⟩ := hrel
    cases gk with
    | zero =>
      obtain rfl : i = 2 := by omega
      have hnx := run_next_end (P := Try.prog) w ⟨#[0, 47]⟩ 2
      go_wp2
      go_ret
      exact ⟨rfl, iter_below _ _ _⟩
    | succ g =>
      have hi : i < (⟨#[0, 47]⟩ : ByteArray).size := by show i < 2; omega
      obtain ⟨x, hx⟩ : ∃ x : UInt8, (⟨#[0, 47]⟩ : ByteArray)[i]'hi = x := ⟨_, rfl⟩
      have hx128 : x.toNat < 128 := by
        rw [← hx]
        rcases (show i = 0 ∨ i = 1 by omega) with rfl | rfl
        · show (0 : UInt8).toNat < 128
          decide
        · show (47 : UInt8).toNat < 128
          decide
      have hnx := fun ty => run_next_ascii (P := Try.prog) w ⟨#[0, 47]⟩ i ty hi (by rw [hx]; exact hx128)
      rw [hx] at hnx
      have hne : ((x.toNat : Int) == 65533) = false := beq_eq_false_iff_ne.2 (by omega)
      clear hx
      go_wp2
      go_roundg g
      case measure => omega
      case rel => exact ⟨i + 1, by omega, rfl⟩

theorem quiet_add {P : Program} {f : FuncId} {args : Array Value} {w : World} {a n : Nat} {v : Value} (h : Calls P f args (w.drewN (a + n)) fun e w' => e = .returned v ∧ w' = w.drewN (a + n)) :
    Calls P f args (w.drewN (a + n)) fun e w'' => e = .returned v ∧ ∃ m, w'' = w.drewN (a + m) :=
  h.mono fun _ _ ⟨he, hm⟩ => ⟨he, n, hm⟩

set_option maxHeartbeats 2000000 in
set_option maxRecDepth 1000000 in
theorem idx_two (r : Int) (h0 : 128 ≤ r) (h1 : r ≠ 65533) (hv : Utf8.valid r = true) (x y : UInt8) (hy : 128 ≤ y.toNat) (he : Utf8.encode r = ⟨#[x, y]⟩) (w : World) :
    Calls Try.prog 31 #[.string ⟨#[0, 47]⟩, .int .i32 r] w fun e w' => e = .returned (.int .i64 (-1)) ∧ Below w.heap.size w w' := by
  have h2 : (r == 65533) = false := beq_eq_false_iff_ne.2 h1
  rw [← valid_eq] at hv
  clear h1
  go_enter Try.func31, Try.ntmps31
  go_wp2_with fail
  refine (Try.utf8_ValidRune r w).mono ?_
  rintro e w' ⟨rfl, hw⟩
  rw [hw, hv]
  go_wp2_with fail
  go_step3
  go_wp2_with fail
  refine wp_loop_rounds 1 ?_
  rw [rounds_succ]
  have hxy : ((((⟨#[0, 47]⟩ : ByteArray)[1]'(by decide)).toNat : Int) != (((⟨#[x, y]⟩ : ByteArray)[1]'(by show 1 < 2; decide)).toNat : Int)) = true := by
    show (((47 : UInt8).toNat : Int) != (y.toNat : Int)) = true
    have : (47 : UInt8).toNat = 47 := by decide
    rw [bne_iff_ne, this]; omega
  go_wp2_with fail
  go_step3
  go_wp2_with fail
  go_quiet (fail)
  go_wp2_with fail
  go_quiet ((go_simp; go_at_call 35; exact quiet_add (Try.strings_IndexByte _ _ _)))
  go_wp2_with fail
  rw [Exit.noGoto_ret]
  go_wp2
  rw [Exit.noGoto_ret]
  go_ret
  exact ⟨rfl, below_drewN (Below.refl _ _) _⟩

set_option maxHeartbeats 2000000 in
set_option maxRecDepth 1000000 in
theorem idx_three (r : Int) (h0 : 128 ≤ r) (h1 : r ≠ 65533) (hv : Utf8.valid r = true) (x y z : UInt8) (he : Utf8.encode r = ⟨#[x, y, z]⟩) (w : World) :
    Calls Try.prog 31 #[.string ⟨#[0, 47]⟩, .int .i32 r] w fun e w' => e = .returned (.int .i64 (-1)) ∧ w' = w := by
  have h2 : (r == 65533) = false := beq_eq_false_iff_ne.2 h1
  rw [← valid_eq] at hv
  clear h1
  go_enter Try.func31, Try.ntmps31
  go_wp2_with fail
  refine (Try.utf8_ValidRune r w).mono ?_
  rintro e w' ⟨rfl, hw⟩
  rw [hw, hv]
  go_wp2_with fail
  go_step3
  go_wp2_with fail
  refine wp_loop_rounds 1 ?_
  rw [rounds_succ]
  go_wp2_with fail
  rw [Exit.noGoto_ret]
  go_ret
  exact ⟨rfl, rfl⟩

set_option maxHeartbeats 2000000 in
set_option maxRecDepth 1000000 in
theorem idx_four (r : Int) (h0 : 128 ≤ r) (h1 : r ≠ 65533) (hv : Utf8.valid r = true) (x y z u : UInt8) (he : Utf8.encode r = ⟨#[x, y, z, u]⟩) (w : World) :
    Calls Try.prog 31 #[.string ⟨#[0, 47]⟩, .int .i32 r] w fun e w' => e = .returned (.int .i64 (-1)) ∧ w' = w := by
  have h2 : (r == 65533) = false := beq_eq_false_iff_ne.2 h1
  rw [← valid_eq] at hv
  clear h1
  go_enter Try.func31, Try.ntmps31
  go_wp2_with fail
  refine (Try.utf8_ValidRune r w).mono ?_
  rintro e w' ⟨rfl, hw⟩
  rw [hw, hv]
  go_wp2_with fail
  go_step3
  go_wp2_with fail
  refine wp_loop_rounds 1 ?_
  rw [rounds_succ]
  go_wp2_with fail
  rw [Exit.noGoto_ret]
  go_ret
  exact ⟨rfl, rfl⟩

theorem below_of_same {w w' : World} (h : w' = w) : Below w.heap.size w w' := by subst h; exact Below.refl _ _

/-- strings.IndexRune of 0 and '/', at any rune past ASCII. -/
theorem idx_high (r : Int) (h0 : 128 ≤ r) (w : World) :
    Calls Try.prog 31 #[.string ⟨#[0, 47]⟩, .int .i32 r] w fun e w' => e = .returned (.int .i64 (-1)) ∧ Below w.heap.size w w' := by
  by_cases h1 : r = 65533
  · subst h1; exact idx_error w
  · cases hv : Utf8.valid r with
    | false => exact (idx_invalid r h0 h1 hv w).mono fun e w' h => ⟨h.1, below_of_same h.2⟩
    | true =>
      have hr : r ≤ 0x10FFFF := by
        unfold Utf8.valid at hv
        simp only [Bool.or_eq_true, Bool.and_eq_true, decide_eq_true_eq] at hv
        omega
      have he : Utf8.encode r = (if r.toNat < 0x80 then ⟨#[UInt8.ofNat r.toNat]⟩
        else if r.toNat < 0x800 then ⟨#[UInt8.ofNat (0xC0 + r.toNat / 64), UInt8.ofNat (0x80 + r.toNat % 64)]⟩
        else if r.toNat < 0x10000 then ⟨#[UInt8.ofNat (0xE0 + r.toNat / 4096), UInt8.ofNat (0x80 + r.toNat / 64 % 64), UInt8.ofNat (0x80 + r.toNat % 64)]⟩
        else ⟨#[UInt8.ofNat (0xF0 + r.toNat / 262144), UInt8.ofNat (0x80 + r.toNat / 4096 % 64), UInt8.ofNat (0x80 + r.toNat / 64 % 64), UInt8.ofNat (0x80 + r.toNat % 64)]⟩) := by
        unfold Utf8.encode
        simp only [hv, if_true]
      rw [if_neg (by omega)] at he
      by_cases h2 : r.toNat < 0x800
      · rw [if_pos h2] at he
        refine idx_two r h0 h1 hv _ _ ?_ he w
        have : (UInt8.ofNat (0x80 + r.toNat % 64)).toNat = (0x80 + r.toNat % 64) % 256 := by simp
        omega
      · rw [if_neg h2] at he
        by_cases h3 : r.toNat < 0x10000
        · rw [if_pos h3] at he
          exact (idx_three r h0 h1 hv _ _ _ he w).mono fun e w' h => ⟨h.1, below_of_same h.2⟩
        · rw [if_neg h3] at he
          exact (idx_four r h0 h1 hv _ _ _ _ he w).mono fun e w' h => ⟨h.1, below_of_same h.2⟩

end Go.Proofs.Ytljddpnnfdaplaa.Rt
