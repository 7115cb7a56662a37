/- The contracts of spin.Turn, Push, More and Bits in the form in which the printed contracts take a callee: a plain function with an answer, and that the call gives it. -/
import Derived.Test.YthdaphnaehdnfaaSpC
namespace Go.Proofs.Ythdaphnaehdnfaa.P
open Go.RowKit Go.Proofs.Ythdaphnaehdnfaa.Sp

def spin_Turn.f (a0_0 : Int) (a0_1 : Int) (a1_0 : Int) (a1_1 : Int) : Option (Int × Int) := some (turnX a0_0 a0_1 a1_0 a1_1 % 257, turnY a0_0 a0_1 a1_0 a1_1 % 257)
theorem spin_Turn.calls (a0_0 : Int) (a0_1 : Int) (a1_0 : Int) (a1_1 : Int) (r1 : Int) (r2 : Int) (w : World) (h : spin_Turn.f a0_0 a0_1 a1_0 a1_1 = some (r1, r2)) :
    Calls Try.prog 17 #[.agg #[.int .i64 a0_0, .int .i64 a0_1], .agg #[.int .i64 a1_0, .int .i64 a1_1]] w fun e w' => e = .returned (.agg #[.int .i64 r1, .int .i64 r2]) ∧ Below w.heap.size w w' := by
  simp only [spin_Turn.f, Option.some.injEq, Prod.mk.injEq] at h
  obtain ⟨rfl, rfl⟩ := h
  exact turn_any _ _ _ _ w

def spin_Push.f (a0_0 : Int) (a0_1 : Int) (a1_0 : Int) (a1_1 : Int) : Option (Int × Int) := some ((a0_0 % 257 + a1_0 % 257) % 257, (a0_1 % 257 + a1_1 % 257) % 257)
theorem spin_Push.calls (a0_0 : Int) (a0_1 : Int) (a1_0 : Int) (a1_1 : Int) (r1 : Int) (r2 : Int) (w : World) (h : spin_Push.f a0_0 a0_1 a1_0 a1_1 = some (r1, r2)) :
    Calls Try.prog 16 #[.agg #[.int .i64 a0_0, .int .i64 a0_1], .agg #[.int .i64 a1_0, .int .i64 a1_1]] w fun e w' => e = .returned (.agg #[.int .i64 r1, .int .i64 r2]) ∧ Below w.heap.size w w' := by
  simp only [spin_Push.f, Option.some.injEq, Prod.mk.injEq] at h
  obtain ⟨rfl, rfl⟩ := h
  exact push_any _ _ _ _ w

def spin_More.f (a0_0 : Int) (a0_1 : Int) (a1 : ByteArray) : Option (Int × Int) := if a1.size ≤ maxLen then some (moreL a0_0 a0_1 a1.data.toList) else none
theorem spin_More.calls (a0_0 : Int) (a0_1 : Int) (a1 : ByteArray) (r1 : Int) (r2 : Int) (w : World) (h : spin_More.f a0_0 a0_1 a1 = some (r1, r2)) :
    Calls Try.prog 14 #[.agg #[.int .i64 a0_0, .int .i64 a0_1], .string a1] w fun e w' => e = .returned (.agg #[.int .i64 r1, .int .i64 r2]) ∧ Below w.heap.size w w' := by
  unfold spin_More.f at h
  split at h
  · rename_i hs
    have h1 := Option.some.inj h
    have := more_any a0_0 a0_1 a1 hs w
    rw [h1] at this
    exact this
  · cases h

def spin_Bits.f (a0_0 : Int) (a0_1 : Int) : Option Int := some ((a0_0 % 257 + 16 * (a0_1 % 257)) % 256)
theorem spin_Bits.calls (a0_0 : Int) (a0_1 : Int) (r : Int) (w : World) (h : spin_Bits.f a0_0 a0_1 = some r) :
    Calls Try.prog 22 #[.agg #[.int .i64 a0_0, .int .i64 a0_1]] w fun e w' => e = .returned (.int .u8 r) ∧ Below w.heap.size w w' := by
  obtain rfl := Option.some.inj h
  exact bits_any _ _ w

end Go.Proofs.Ythdaphnaehdnfaa.P
