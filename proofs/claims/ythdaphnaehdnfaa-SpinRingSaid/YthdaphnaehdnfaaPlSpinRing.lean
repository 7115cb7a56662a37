/- The plain law behind the statement SpinRing, and the walk that follows. -/
import Derived.Test.YthdaphnaehdnfaaSpLaw
import Derived.Test.YthdaphnaehdnfaaP5
namespace Go.Proofs.Ythdaphnaehdnfaa.PureSpin
open Go.RowKit Go.Proofs.Ythdaphnaehdnfaa.P Go.Proofs.Ythdaphnaehdnfaa.Sp Go.Proofs.YthdaphnaehdnfaaW.PrintWords Go.Proofs.YthdaphnaehdnfaaW.PrintLast Go.Proofs.YthdaphnaehdnfaaW.PrintMore

/-! The ring of whirls. -/
def M (x y : Int) : Prop := x % 257 = y % 257
theorem M.refl (x : Int) : M x x := rfl
theorem M.mod (x : Int) : M (x % 257) x := by unfold M; omega
theorem M.add {a b c d : Int} (h : M a b) (h' : M c d) : M (a + c) (b + d) := by unfold M at *; omega
theorem M.sub {a b c d : Int} (h : M a b) (h' : M c d) : M (a - c) (b - d) := by unfold M at *; omega
theorem M.mul {a b c d : Int} (h : M a b) (h' : M c d) : M (a * c) (b * d) := by
  unfold M at *
  rw [Int.mul_emod, h, h', ← Int.mul_emod]
theorem M.trans {a b c : Int} (h : M a b) (h' : M b c) : M a c := Eq.trans h h'
theorem M.symm {a b : Int} (h : M a b) : M b a := Eq.symm h

theorem turnX_M {a a' b b' c c' d d' : Int} (h1 : M a a') (h2 : M b b') (h3 : M c c') (h4 : M d d') : M (turnX a b c d) (a' * c' - b' * d') :=
  M.sub (M.mul ((M.mod a).trans h1) ((M.mod c).trans h3)) (M.mul ((M.mod b).trans h2) ((M.mod d).trans h4))
theorem turnY_M {a a' b b' c c' d d' : Int} (h1 : M a a') (h2 : M b b') (h3 : M c c') (h4 : M d d') : M (turnY a b c d) (a' * d' + b' * c') :=
  M.add (M.mul ((M.mod a).trans h1) ((M.mod d).trans h4)) (M.mul ((M.mod b).trans h2) ((M.mod c).trans h3))
theorem push_M {a a' c c' : Int} (h1 : M a a') (h3 : M c c') : M (a % 257 + c % 257) (a' + c') := M.add ((M.mod a).trans h1) ((M.mod c).trans h3)
theorem eq_of_M {a b c d : Int} (h : M a c) (h' : M b d) (e : c = d) : a % 257 = b % 257 := by
  subst e; exact h.trans h'.symm
theorem mm {a b : Int} (h : M a b) : M (a % 257) b := (M.mod a).trans h

theorem ring (a b c d e f : Int) : moatlaw02_SpinRing.f 3 a b c d e f = some true := by
  have R := fun x : Int => M.refl x
  have t1 : turnX a b c d % 257 = turnX c d a b % 257 := eq_of_M (turnX_M (R a) (R b) (R c) (R d)) (turnX_M (R c) (R d) (R a) (R b)) (by grind)
  have t2 : turnY a b c d % 257 = turnY c d a b % 257 := eq_of_M (turnY_M (R a) (R b) (R c) (R d)) (turnY_M (R c) (R d) (R a) (R b)) (by grind)
  have p1 : (a % 257 + c % 257) % 257 = (c % 257 + a % 257) % 257 := by omega
  have p2 : (b % 257 + d % 257) % 257 = (d % 257 + b % 257) % 257 := by omega
  have X := fun a b c d => mm (turnX_M (R a) (R b) (R c) (R d))
  have Y := fun a b c d => mm (turnY_M (R a) (R b) (R c) (R d))
  have a1 : turnX (turnX a b c d % 257) (turnY a b c d % 257) e f % 257 = turnX a b (turnX c d e f % 257) (turnY c d e f % 257) % 257 :=
    eq_of_M (turnX_M (X a b c d) (Y a b c d) (R e) (R f)) (turnX_M (R a) (R b) (X c d e f) (Y c d e f)) (by grind)
  have a2 : turnY (turnX a b c d % 257) (turnY a b c d % 257) e f % 257 = turnY a b (turnX c d e f % 257) (turnY c d e f % 257) % 257 :=
    eq_of_M (turnY_M (X a b c d) (Y a b c d) (R e) (R f)) (turnY_M (R a) (R b) (X c d e f) (Y c d e f)) (by grind)
  have b1 : ((a % 257 + c % 257) % 257 % 257 + e % 257) % 257 = (a % 257 + (c % 257 + e % 257) % 257 % 257) % 257 := by omega
  have b2 : ((b % 257 + d % 257) % 257 % 257 + f % 257) % 257 = (b % 257 + (d % 257 + f % 257) % 257 % 257) % 257 := by omega
  have Pm := fun a c => mm (push_M (R a) (R c))
  have d1 : turnX a b ((c % 257 + e % 257) % 257) ((d % 257 + f % 257) % 257) % 257 = (turnX a b c d % 257 % 257 + turnX a b e f % 257 % 257) % 257 :=
    eq_of_M (turnX_M (R a) (R b) (Pm c e) (Pm d f)) (push_M (X a b c d) (X a b e f)) (by grind)
  have d2 : turnY a b ((c % 257 + e % 257) % 257) ((d % 257 + f % 257) % 257) % 257 = (turnY a b c d % 257 % 257 + turnY a b e f % 257 % 257) % 257 :=
    eq_of_M (turnY_M (R a) (R b) (Pm c e) (Pm d f)) (push_M (Y a b c d) (Y a b e f)) (by grind)
  have r1 : decide (0 ≤ turnX a b c d % 257 ∧ turnX a b c d % 257 < 257 ∧ 0 ≤ turnY a b c d % 257 ∧ turnY a b c d % 257 < 257) = true := decide_eq_true (by omega)
  have r2 : decide (0 ≤ (a % 257 + c % 257) % 257 ∧ (a % 257 + c % 257) % 257 < 257 ∧ 0 ≤ (b % 257 + d % 257) % 257 ∧ (b % 257 + d % 257) % 257 < 257) = true := decide_eq_true (by omega)
  unfold moatlaw02_SpinRing.f
  simp only [shown_eq, Option.bind_some, spin_Turn.f, spin_Push.f, right_eq, ← t1, ← t2, ← p1, ← p2, beq_self_eq_true, Bool.not_true, Bool.or_self, Bool.false_eq_true, if_false, r1, r2, if_true]
  simp only [moatlaw02_SpinRing.j0, Bool.false_eq_true, if_false, Option.bind_some, spin_Turn.f, spin_Push.f, a1, a2, b1, b2, beq_self_eq_true, Bool.not_true, Bool.or_self]
  simp only [moatlaw02_SpinRing.j1, Bool.false_eq_true, if_false, if_true, Option.bind_some, spin_Turn.f, spin_Push.f, d1, d2, beq_self_eq_true, Bool.and_self]

end Go.Proofs.Ythdaphnaehdnfaa.PureSpin
namespace Go.Proofs.Ythdaphnaehdnfaa
open Go.RowKit
theorem SpinRing_walk (a b c d e f : Int) (w : World) : Calls Try.prog 7 #[.agg #[.int .i64 a, .int .i64 b], .agg #[.int .i64 c, .int .i64 d], .agg #[.int .i64 e, .int .i64 f]] w fun e w' => e = .returned (.bool true) ∧ Below w.heap.size w w' :=
  P.moatlaw02_SpinRing.calls 3 a b c d e f true w (PureSpin.ring a b c d e f)
end Go.Proofs.Ythdaphnaehdnfaa
