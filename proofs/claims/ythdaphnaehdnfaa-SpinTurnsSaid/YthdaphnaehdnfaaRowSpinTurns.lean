/- SpinTurns returns true for any two whirls, and leaves them as they were. No condition. -/
import Derived.Test.YthdaphnaehdnfaaRows
import Derived.Test.YthdaphnaehdnfaaPlSpinTurns
import Derived.WalkKit
import Derived.ProofKit
import Derived.OpenShut
import Derived.ShutString
import Derived.ChangeOld
import Derived.Below
import Derived.SizedLaws
import Derived.Lib.SmallJoins
namespace Go.Proofs.Ythdaphnaehdnfaa.spinTurns
open Go.ChangeShapes Go.WideShapes Go.ChangeAt Go.RowKit Go.Joins
open Go.ChangeMaps (open_string shut_string)
set_option linter.unusedVariables false
set_option linter.unusedSimpArgs false
theorem own : ownKnob Try.prog.godebug = none := by kernel_rfl
theorem cells_spin : Try.prog.cellsOf 23 = 2 := by kernel_rfl
set_option maxRecDepth 100000 in
theorem lifted (os : Os) (started : os.Started) (H : Type) (enc : TypeId × Value → H) :
    ReturnsInHanded {} Try.checked os 8 .any (Rows.spinTurnsSpec.pre6 enc Try.prog Try.f8 Rows.spinTurnsRow.domain false) (Rows.spinTurnsSpec.post enc Try.prog Try.f8 false true false false) := by
  refine returnsInHanded_of_change_sized (C := Try.checked) own started (by kernel_rfl) Try.func8
    (ChangeSpec.witness6 (enc := enc) (C := Try.checked) false ⟨#[], #[.agg #[.int .i64 0, .int .i64 0], .agg #[.int .i64 0, .int .i64 0]], []⟩ 8 (by kernel_rfl) (by kernel_rfl) (by kernel_rfl) (by kernel_rfl)) ?_
  intro W base args ds gs before hval0 hW hcnd hsz0 _
  have hsz : (DataW.weightsEach Try.prog (Try.f8.params.toList ++ Rows.spinTurnsSpec.plain.varTypes Try.prog) (ds ++ gs)).all (· ≤ reachBytes) = true := hsz0
  have hval : ∀ (j : Nat) t v, Try.f8.params[j]? = some t → args[j]? = some v → Value.okWide Try.prog W .any base t v := hval0
  have hW' := hW
  obtain ⟨p, q, hA0, hV, rfl, hfz, hnd⟩ := hW
  have hA : DataW.TrodAll enc Try.prog W 0 (fun _ => true) true Try.f8.params.toList args.toList ds p := hA0
  rw [Try.params8] at hA hval hsz
  obtain ⟨v0, vs0, d0, ds0, p0, q0, hargs, rfl, rfl, h0, r0⟩ := trodAll_cons hA
  obtain ⟨v1, vs1, d1, ds1, p1, q1, rfl, rfl, rfl, h1, r1⟩ := trodAll_cons r0
  obtain ⟨rfl, rfl, rfl⟩ := trodAll_nil r1
  obtain rfl : args = #[v0, v1] := by cases args; simp_all
  obtain ⟨rfl, rfl⟩ := trodVars_none hV
  obtain ⟨c00, c01, y00, y01, m0, rfl, rfl, rfl, hy00, hy01⟩ := open_agg2 Try.underlying23 (by kernel_rfl) cells_spin (hval 0 23 v0 rfl rfl) h0
  obtain ⟨a00, e00, rfl, wa00⟩ := DataW.trod_int Try.underlying3 hy00
  obtain ⟨a01, e01, rfl, wa01⟩ := DataW.trod_int Try.underlying3 hy01
  simp at e00 e01
  subst e00 e01
  have st0 : ∀ (W' : World) (sp : Nat → Bool), DataW.Trod enc Try.prog W' 0 sp true 23 (.agg #[.int .i64 a00, .int .i64 a01]) (.agg [.lit (.int .i64 a00), .lit (.int .i64 a01)]) [] := fun W' sp =>
    shut_agg2 (y0 := (.lit (.int .i64 a00), [])) (y1 := (.lit (.int .i64 a01), [])) Try.underlying23 (by kernel_rfl) cells_spin ⟨1, by simp [DataW.trod, Try.underlying3, wa00]⟩ ⟨1, by simp [DataW.trod, Try.underlying3, wa01]⟩
  obtain ⟨c10, c11, y10, y11, m1, rfl, rfl, rfl, hy10, hy11⟩ := open_agg2 Try.underlying23 (by kernel_rfl) cells_spin (hval 1 23 v1 rfl rfl) h1
  obtain ⟨a10, e10, rfl, wa10⟩ := DataW.trod_int Try.underlying3 hy10
  obtain ⟨a11, e11, rfl, wa11⟩ := DataW.trod_int Try.underlying3 hy11
  simp at e10 e11
  subst e10 e11
  have st1 : ∀ (W' : World) (sp : Nat → Bool), DataW.Trod enc Try.prog W' 0 sp true 23 (.agg #[.int .i64 a10, .int .i64 a11]) (.agg [.lit (.int .i64 a10), .lit (.int .i64 a11)]) [] := fun W' sp =>
    shut_agg2 (y0 := (.lit (.int .i64 a10), [])) (y1 := (.lit (.int .i64 a11), [])) Try.underlying23 (by kernel_rfl) cells_spin ⟨1, by simp [DataW.trod, Try.underlying3, wa10]⟩ ⟨1, by simp [DataW.trod, Try.underlying3, wa11]⟩
  clear hA0 hval0 hsz0 hsz
  refine (SpinTurns_walk a00 a01 a10 a11 W).mono fun e W' ⟨he, bel⟩ => ?_
  subst he
  exact ⟨_, rfl, _, _, _, [], _, [], hW', trodAll_mk1 (shut_bool Try.underlying4 _), (trodAll_cons_mk (st0 _ _) (trodAll_cons_mk (st1 _ _) trodAll_mk0)), rfl, bel.frame _, fun h => by cases h⟩
theorem over : Rows.spinTurnsRow.holds Try.pinned (OpenSpec.ofChange Rows.spinTurnsSpec) :=
  OpenClaim.holds_of_wide 8 Try.f8 rfl rfl rfl rfl rfl rfl rfl ⟨rfl, rfl, rfl, rfl, rfl⟩ rfl rfl rfl rfl rfl (by kernel_rfl) Try.func8 (by kernel_rfl)
    (of_decide_eq_true (by kernel_rfl)) (by unfold Func.isWrapper; first | (rw [if_pos (by decide +kernel)]; kernel_rfl) | (rw [if_neg (by decide +kernel)]; exact ⟨rfl, rfl⟩))
    (fun os started H enc _ => lifted os started H enc)
theorem proved : Rows.SpinTurnsSaid := over
end Go.Proofs.Ythdaphnaehdnfaa.spinTurns
namespace Go.Proofs.Ythdaphnaehdnfaa
theorem spinTurns_holds : Rows.SpinTurnsSaid := spinTurns.proved
#print axioms spinTurns_holds
end Go.Proofs.Ythdaphnaehdnfaa
