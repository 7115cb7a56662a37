/- Contracts of functions that the statements reach: each call's answer as a plain Lean function. Printed by a program of this session (over the kit's print) out of the translation; Lean checks it. -/
import Derived.Test.YtljddpnnfdaplaaP0
import Derived.Test.YtljddpnnfdaplaaP1
import Derived.Test.YtljddpnnfdaplaaP2
import Derived.Test.YtljddpnnfdaplaaP3
namespace Go.Proofs.Ytljddpnnfdaplaa.P
open Go.RowKit Go.Proofs.YtljddpnnfdaplaaW.PrintWords Go.Proofs.YtljddpnnfdaplaaW.PrintLast Go.Proofs.YtljddpnnfdaplaaW.PrintMore
attribute [local go_sem] max2_int min2_int max_two min_two max_three min_three max_four min_four   -- for this text's walks alone
set_option linter.unusedVariables false
set_option linter.unusedSimpArgs false

/-! ### moatlaw13_PathOrder: function 7 -/
def moatlaw13_PathOrder.j0 : Nat → Bool → ByteArray → Bool → Option (Bool)
  | 0, _, _, _ => none
  | k + 1, x7, x8, x71 => if x71 = true then (some false) else ((path_Split.f x8).bind fun bt222 => (if x7 = true then (if bt222.2.2 = 0 then ((path_Under.f x8 bt222.1).bind fun t225 => (if t225 = true then ((path_Under.f bt222.1 x8).bind fun t226 => (some (!t226))) else (some false))) else (some true)) else (some false)))
def moatlaw13_PathOrder.f (k : Nat) (a0 : ByteArray) (a1 : ByteArray) (a2 : ByteArray) : Option (Bool) := (moatlaw13_shown.f k).bind fun t203 => ((moatlaw13_few.f a0).bind fun t204 => ((moatlaw13_few.f a1).bind fun t205 => ((moatlaw13_few.f a2).bind fun t206 => ((path_Parse.f t204).bind fun bt207 => ((path_Under.f t204 t204).bind fun t211 => (if (t211 != (bt207.2 == 0)) = true then (moatlaw13_PathOrder.j0 k t203 t204 true) else ((path_Under.f t204 (⟨#[47]⟩ : ByteArray)).bind fun t212 => (if (t212 != (bt207.2 == 0)) = true then (moatlaw13_PathOrder.j0 k t203 t204 true) else ((path_Under.f t204 t205).bind fun t213 => (if t213 = true then ((path_Under.f t205 t206).bind fun t214 => (if t214 = true then ((path_Under.f t204 t206).bind fun t215 => (if t215 = true then ((path_Under.f t204 t205).bind fun t216 => (if t216 = true then ((path_Under.f t205 t204).bind fun t217 => (if t217 = true then (moatlaw13_PathOrder.j0 k t203 t204 (t204.toList != t205.toList)) else (moatlaw13_PathOrder.j0 k t203 t204 false))) else (moatlaw13_PathOrder.j0 k t203 t204 false))) else (moatlaw13_PathOrder.j0 k t203 t204 true))) else ((path_Under.f t204 t205).bind fun t218 => (if t218 = true then ((path_Under.f t205 t204).bind fun t219 => (if t219 = true then (moatlaw13_PathOrder.j0 k t203 t204 (t204.toList != t205.toList)) else (moatlaw13_PathOrder.j0 k t203 t204 false))) else (moatlaw13_PathOrder.j0 k t203 t204 false))))) else ((path_Under.f t204 t205).bind fun t220 => (if t220 = true then ((path_Under.f t205 t204).bind fun t221 => (if t221 = true then (moatlaw13_PathOrder.j0 k t203 t204 (t204.toList != t205.toList)) else (moatlaw13_PathOrder.j0 k t203 t204 false))) else (moatlaw13_PathOrder.j0 k t203 t204 false)))))))))))))
theorem moatlaw13_PathOrder.mono_l : ∀ k, (∀ y0 y1 y2, LeO (moatlaw13_PathOrder.j0 k y0 y1 y2) (moatlaw13_PathOrder.j0 (k + 1) y0 y1 y2))
  | 0 => fun _ _ _ r h => by simp [moatlaw13_PathOrder.j0] at h
  | k + 1 => by
    have ih0 := moatlaw13_PathOrder.mono_l k
    · intro y0 y1 y2
      unfold moatlaw13_PathOrder.j0
      repeat' first
      | (with_reducible exact ih0 _ _ _)
      | (with_reducible exact moatlaw13_shown.mono _)
      | (with_reducible exact LeO.refl _)
      | (with_reducible exact LeO.none _)
      | (with_reducible refine LeO.ite ?_ ?_)
      | (with_reducible refine LeO.bind ?_ (fun _ => ?_))
      | exact ih0 _ _ _
      | exact moatlaw13_shown.mono _
      | exact LeO.none _
      | refine LeO.ite ?_ ?_
      | refine LeO.bind ?_ (fun _ => ?_)
theorem moatlaw13_PathOrder.mono : ∀ a0 a1 a2 k, LeO (moatlaw13_PathOrder.f k a0 a1 a2) (moatlaw13_PathOrder.f (k + 1) a0 a1 a2) := by
  intro a0 a1 a2 k
  have ih0 := moatlaw13_PathOrder.mono_l k
  unfold moatlaw13_PathOrder.f
  repeat' first
      | (with_reducible exact ih0 _ _ _)
      | (with_reducible exact moatlaw13_shown.mono _)
      | (with_reducible exact LeO.refl _)
      | (with_reducible exact LeO.none _)
      | (with_reducible refine LeO.ite ?_ ?_)
      | (with_reducible refine LeO.bind ?_ (fun _ => ?_))
      | exact ih0 _ _ _
      | exact moatlaw13_shown.mono _
      | exact LeO.none _
      | refine LeO.ite ?_ ?_
      | refine LeO.bind ?_ (fun _ => ?_)
set_option maxHeartbeats 8000000 in
set_option maxRecDepth 100000 in
theorem moatlaw13_PathOrder.calls (k : Nat) (a0 : ByteArray) (a1 : ByteArray) (a2 : ByteArray) (r : Bool) (w : World) (h : moatlaw13_PathOrder.f k a0 a1 a2 = some r) :
    Calls Try.prog 7 #[.string a0, .string a1, .string a2] w fun e w' => e = .returned (.bool r) ∧ Below w.heap.size w w' := by
  have HB := Aside0.mk (Below.refl w.heap.size w)
  have H : ((moatlaw13_shown.f k).bind fun t203 => ((moatlaw13_few.f a0).bind fun t204 => ((moatlaw13_few.f a1).bind fun t205 => ((moatlaw13_few.f a2).bind fun t206 => ((path_Parse.f t204).bind fun bt207 => ((path_Under.f t204 t204).bind fun t211 => (if (t211 != (bt207.2 == 0)) = true then (moatlaw13_PathOrder.j0 k t203 t204 true) else ((path_Under.f t204 (⟨#[47]⟩ : ByteArray)).bind fun t212 => (if (t212 != (bt207.2 == 0)) = true then (moatlaw13_PathOrder.j0 k t203 t204 true) else ((path_Under.f t204 t205).bind fun t213 => (if t213 = true then ((path_Under.f t205 t206).bind fun t214 => (if t214 = true then ((path_Under.f t204 t206).bind fun t215 => (if t215 = true then ((path_Under.f t204 t205).bind fun t216 => (if t216 = true then ((path_Under.f t205 t204).bind fun t217 => (if t217 = true then (moatlaw13_PathOrder.j0 k t203 t204 (t204.toList != t205.toList)) else (moatlaw13_PathOrder.j0 k t203 t204 false))) else (moatlaw13_PathOrder.j0 k t203 t204 false))) else (moatlaw13_PathOrder.j0 k t203 t204 true))) else ((path_Under.f t204 t205).bind fun t218 => (if t218 = true then ((path_Under.f t205 t204).bind fun t219 => (if t219 = true then (moatlaw13_PathOrder.j0 k t203 t204 (t204.toList != t205.toList)) else (moatlaw13_PathOrder.j0 k t203 t204 false))) else (moatlaw13_PathOrder.j0 k t203 t204 false))))) else ((path_Under.f t204 t205).bind fun t220 => (if t220 = true then ((path_Under.f t205 t204).bind fun t221 => (if t221 = true then (moatlaw13_PathOrder.j0 k t203 t204 (t204.toList != t205.toList)) else (moatlaw13_PathOrder.j0 k t203 t204 false))) else (moatlaw13_PathOrder.j0 k t203 t204 false)))))))))))))) = some r := h
  clear h
  replace H := Option.bind_eq_some_iff.mp H
  obtain ⟨t203, A40, H⟩ := H
  replace H : ((moatlaw13_few.f a0).bind fun t204 => ((moatlaw13_few.f a1).bind fun t205 => ((moatlaw13_few.f a2).bind fun t206 => ((path_Parse.f t204).bind fun bt207 => ((path_Under.f t204 t204).bind fun t211 => (if (t211 != (bt207.2 == 0)) = true then (moatlaw13_PathOrder.j0 k t203 t204 true) else ((path_Under.f t204 (⟨#[47]⟩ : ByteArray)).bind fun t212 => (if (t212 != (bt207.2 == 0)) = true then (moatlaw13_PathOrder.j0 k t203 t204 true) else ((path_Under.f t204 t205).bind fun t213 => (if t213 = true then ((path_Under.f t205 t206).bind fun t214 => (if t214 = true then ((path_Under.f t204 t206).bind fun t215 => (if t215 = true then ((path_Under.f t204 t205).bind fun t216 => (if t216 = true then ((path_Under.f t205 t204).bind fun t217 => (if t217 = true then (moatlaw13_PathOrder.j0 k t203 t204 (t204.toList != t205.toList)) else (moatlaw13_PathOrder.j0 k t203 t204 false))) else (moatlaw13_PathOrder.j0 k t203 t204 false))) else (moatlaw13_PathOrder.j0 k t203 t204 true))) else ((path_Under.f t204 t205).bind fun t218 => (if t218 = true then ((path_Under.f t205 t204).bind fun t219 => (if t219 = true then (moatlaw13_PathOrder.j0 k t203 t204 (t204.toList != t205.toList)) else (moatlaw13_PathOrder.j0 k t203 t204 false))) else (moatlaw13_PathOrder.j0 k t203 t204 false))))) else ((path_Under.f t204 t205).bind fun t220 => (if t220 = true then ((path_Under.f t205 t204).bind fun t221 => (if t221 = true then (moatlaw13_PathOrder.j0 k t203 t204 (t204.toList != t205.toList)) else (moatlaw13_PathOrder.j0 k t203 t204 false))) else (moatlaw13_PathOrder.j0 k t203 t204 false))))))))))))) = some r := H
  have A4 := Aside0.mk A40
  clear A40
  replace H := Option.bind_eq_some_iff.mp H
  obtain ⟨t204, A50, H⟩ := H
  replace H : ((moatlaw13_few.f a1).bind fun t205 => ((moatlaw13_few.f a2).bind fun t206 => ((path_Parse.f t204).bind fun bt207 => ((path_Under.f t204 t204).bind fun t211 => (if (t211 != (bt207.2 == 0)) = true then (moatlaw13_PathOrder.j0 k t203 t204 true) else ((path_Under.f t204 (⟨#[47]⟩ : ByteArray)).bind fun t212 => (if (t212 != (bt207.2 == 0)) = true then (moatlaw13_PathOrder.j0 k t203 t204 true) else ((path_Under.f t204 t205).bind fun t213 => (if t213 = true then ((path_Under.f t205 t206).bind fun t214 => (if t214 = true then ((path_Under.f t204 t206).bind fun t215 => (if t215 = true then ((path_Under.f t204 t205).bind fun t216 => (if t216 = true then ((path_Under.f t205 t204).bind fun t217 => (if t217 = true then (moatlaw13_PathOrder.j0 k t203 t204 (t204.toList != t205.toList)) else (moatlaw13_PathOrder.j0 k t203 t204 false))) else (moatlaw13_PathOrder.j0 k t203 t204 false))) else (moatlaw13_PathOrder.j0 k t203 t204 true))) else ((path_Under.f t204 t205).bind fun t218 => (if t218 = true then ((path_Under.f t205 t204).bind fun t219 => (if t219 = true then (moatlaw13_PathOrder.j0 k t203 t204 (t204.toList != t205.toList)) else (moatlaw13_PathOrder.j0 k t203 t204 false))) else (moatlaw13_PathOrder.j0 k t203 t204 false))))) else ((path_Under.f t204 t205).bind fun t220 => (if t220 = true then ((path_Under.f t205 t204).bind fun t221 => (if t221 = true then (moatlaw13_PathOrder.j0 k t203 t204 (t204.toList != t205.toList)) else (moatlaw13_PathOrder.j0 k t203 t204 false))) else (moatlaw13_PathOrder.j0 k t203 t204 false)))))))))))) = some r := H
  have A5 := Aside0.mk A50
  clear A50
  replace H := Option.bind_eq_some_iff.mp H
  obtain ⟨t205, A60, H⟩ := H
  replace H : ((moatlaw13_few.f a2).bind fun t206 => ((path_Parse.f t204).bind fun bt207 => ((path_Under.f t204 t204).bind fun t211 => (if (t211 != (bt207.2 == 0)) = true then (moatlaw13_PathOrder.j0 k t203 t204 true) else ((path_Under.f t204 (⟨#[47]⟩ : ByteArray)).bind fun t212 => (if (t212 != (bt207.2 == 0)) = true then (moatlaw13_PathOrder.j0 k t203 t204 true) else ((path_Under.f t204 t205).bind fun t213 => (if t213 = true then ((path_Under.f t205 t206).bind fun t214 => (if t214 = true then ((path_Under.f t204 t206).bind fun t215 => (if t215 = true then ((path_Under.f t204 t205).bind fun t216 => (if t216 = true then ((path_Under.f t205 t204).bind fun t217 => (if t217 = true then (moatlaw13_PathOrder.j0 k t203 t204 (t204.toList != t205.toList)) else (moatlaw13_PathOrder.j0 k t203 t204 false))) else (moatlaw13_PathOrder.j0 k t203 t204 false))) else (moatlaw13_PathOrder.j0 k t203 t204 true))) else ((path_Under.f t204 t205).bind fun t218 => (if t218 = true then ((path_Under.f t205 t204).bind fun t219 => (if t219 = true then (moatlaw13_PathOrder.j0 k t203 t204 (t204.toList != t205.toList)) else (moatlaw13_PathOrder.j0 k t203 t204 false))) else (moatlaw13_PathOrder.j0 k t203 t204 false))))) else ((path_Under.f t204 t205).bind fun t220 => (if t220 = true then ((path_Under.f t205 t204).bind fun t221 => (if t221 = true then (moatlaw13_PathOrder.j0 k t203 t204 (t204.toList != t205.toList)) else (moatlaw13_PathOrder.j0 k t203 t204 false))) else (moatlaw13_PathOrder.j0 k t203 t204 false))))))))))) = some r := H
  have A6 := Aside0.mk A60
  clear A60
  replace H := Option.bind_eq_some_iff.mp H
  obtain ⟨t206, A70, H⟩ := H
  replace H : ((path_Parse.f t204).bind fun bt207 => ((path_Under.f t204 t204).bind fun t211 => (if (t211 != (bt207.2 == 0)) = true then (moatlaw13_PathOrder.j0 k t203 t204 true) else ((path_Under.f t204 (⟨#[47]⟩ : ByteArray)).bind fun t212 => (if (t212 != (bt207.2 == 0)) = true then (moatlaw13_PathOrder.j0 k t203 t204 true) else ((path_Under.f t204 t205).bind fun t213 => (if t213 = true then ((path_Under.f t205 t206).bind fun t214 => (if t214 = true then ((path_Under.f t204 t206).bind fun t215 => (if t215 = true then ((path_Under.f t204 t205).bind fun t216 => (if t216 = true then ((path_Under.f t205 t204).bind fun t217 => (if t217 = true then (moatlaw13_PathOrder.j0 k t203 t204 (t204.toList != t205.toList)) else (moatlaw13_PathOrder.j0 k t203 t204 false))) else (moatlaw13_PathOrder.j0 k t203 t204 false))) else (moatlaw13_PathOrder.j0 k t203 t204 true))) else ((path_Under.f t204 t205).bind fun t218 => (if t218 = true then ((path_Under.f t205 t204).bind fun t219 => (if t219 = true then (moatlaw13_PathOrder.j0 k t203 t204 (t204.toList != t205.toList)) else (moatlaw13_PathOrder.j0 k t203 t204 false))) else (moatlaw13_PathOrder.j0 k t203 t204 false))))) else ((path_Under.f t204 t205).bind fun t220 => (if t220 = true then ((path_Under.f t205 t204).bind fun t221 => (if t221 = true then (moatlaw13_PathOrder.j0 k t203 t204 (t204.toList != t205.toList)) else (moatlaw13_PathOrder.j0 k t203 t204 false))) else (moatlaw13_PathOrder.j0 k t203 t204 false)))))))))) = some r := H
  have A7 := Aside0.mk A70
  clear A70
  replace H := Option.bind_eq_some_iff.mp H
  obtain ⟨⟨t207, t208⟩, A80, H⟩ := H
  replace H : ((path_Under.f t204 t204).bind fun t211 => (if (t211 != (t208 == 0)) = true then (moatlaw13_PathOrder.j0 k t203 t204 true) else ((path_Under.f t204 (⟨#[47]⟩ : ByteArray)).bind fun t212 => (if (t212 != (t208 == 0)) = true then (moatlaw13_PathOrder.j0 k t203 t204 true) else ((path_Under.f t204 t205).bind fun t213 => (if t213 = true then ((path_Under.f t205 t206).bind fun t214 => (if t214 = true then ((path_Under.f t204 t206).bind fun t215 => (if t215 = true then ((path_Under.f t204 t205).bind fun t216 => (if t216 = true then ((path_Under.f t205 t204).bind fun t217 => (if t217 = true then (moatlaw13_PathOrder.j0 k t203 t204 (t204.toList != t205.toList)) else (moatlaw13_PathOrder.j0 k t203 t204 false))) else (moatlaw13_PathOrder.j0 k t203 t204 false))) else (moatlaw13_PathOrder.j0 k t203 t204 true))) else ((path_Under.f t204 t205).bind fun t218 => (if t218 = true then ((path_Under.f t205 t204).bind fun t219 => (if t219 = true then (moatlaw13_PathOrder.j0 k t203 t204 (t204.toList != t205.toList)) else (moatlaw13_PathOrder.j0 k t203 t204 false))) else (moatlaw13_PathOrder.j0 k t203 t204 false))))) else ((path_Under.f t204 t205).bind fun t220 => (if t220 = true then ((path_Under.f t205 t204).bind fun t221 => (if t221 = true then (moatlaw13_PathOrder.j0 k t203 t204 (t204.toList != t205.toList)) else (moatlaw13_PathOrder.j0 k t203 t204 false))) else (moatlaw13_PathOrder.j0 k t203 t204 false))))))))) = some r := H
  have A8 := Aside0.mk A80
  clear A80
  have HC9 := Aside0.mk H
  clear H
  go_enter Try.func7, Try.ntmps7
  go_upto_region 4 with (first | ((with_reducible refine gate_callee (f := 14) rfl ?_); refine goesL_ (some 16) rfl rfl Try.func14 (by kernel_rfl) rfl #[] rfl (by (try simp only [List.map_toArray, List.map_cons, List.map_nil]); first | done | rfl | (simp only [List.length_drop, List.length_take]; rfl)) ?_; (with_reducible refine (moatlaw13_shown.calls k  t203 _ A4.out).mono ?_); rintro e w10 ⟨rfl, hb⟩; refine ⟨_, rfl, ?_⟩; have n0_ := Aside0.mk (below_step (by repeat (first | (with_reducible first | exact HB.out | apply below_alloc | apply pw_below_drewN | apply below_drew1) | exact HB.out)) hb); clear HB; have HB := n0_; clear n0_; (try clear hb); (try clear hb2); (try clear hk); (try clear hi)) | ((with_reducible refine gate_callee (f := 10) rfl ?_); refine goesL_ (some 18) rfl rfl Try.func10 (by kernel_rfl) rfl #[.string a0] rfl (by (try simp only [List.map_toArray, List.map_cons, List.map_nil]); first | done | rfl | (simp only [List.length_drop, List.length_take]; rfl)) ?_; (with_reducible refine (moatlaw13_few.calls a0 t204 _ A5.out).mono ?_); rintro e w11 ⟨rfl, hb⟩; refine ⟨_, rfl, ?_⟩; have n0_ := Aside0.mk (below_step (by repeat (first | (with_reducible first | exact HB.out | apply below_alloc | apply pw_below_drewN | apply below_drew1) | exact HB.out)) hb); clear HB; have HB := n0_; clear n0_; (try clear hb); (try clear hb2); (try clear hk); (try clear hi)) | ((with_reducible refine gate_callee (f := 10) rfl ?_); refine goesL_ (some 20) rfl rfl Try.func10 (by kernel_rfl) rfl #[.string a1] rfl (by (try simp only [List.map_toArray, List.map_cons, List.map_nil]); first | done | rfl | (simp only [List.length_drop, List.length_take]; rfl)) ?_; (with_reducible refine (moatlaw13_few.calls a1 t205 _ A6.out).mono ?_); rintro e w12 ⟨rfl, hb⟩; refine ⟨_, rfl, ?_⟩; have n0_ := Aside0.mk (below_step (by repeat (first | (with_reducible first | exact HB.out | apply below_alloc | apply pw_below_drewN | apply below_drew1) | exact HB.out)) hb); clear HB; have HB := n0_; clear n0_; (try clear hb); (try clear hb2); (try clear hk); (try clear hi)) | ((with_reducible refine gate_callee (f := 10) rfl ?_); refine goesL_ (some 22) rfl rfl Try.func10 (by kernel_rfl) rfl #[.string a2] rfl (by (try simp only [List.map_toArray, List.map_cons, List.map_nil]); first | done | rfl | (simp only [List.length_drop, List.length_take]; rfl)) ?_; (with_reducible refine (moatlaw13_few.calls a2 t206 _ A7.out).mono ?_); rintro e w13 ⟨rfl, hb⟩; refine ⟨_, rfl, ?_⟩; have n0_ := Aside0.mk (below_step (by repeat (first | (with_reducible first | exact HB.out | apply below_alloc | apply pw_below_drewN | apply below_drew1) | exact HB.out)) hb); clear HB; have HB := n0_; clear n0_; (try clear hb); (try clear hb2); (try clear hk); (try clear hi)) | ((with_reducible refine gate_callee (f := 9) rfl ?_); refine goesL_ (some 25) rfl rfl Try.func9 (by kernel_rfl) rfl #[.string t204] rfl (by (try simp only [List.map_toArray, List.map_cons, List.map_nil]); first | done | rfl | (simp only [List.length_drop, List.length_take]; rfl)) ?_; (with_reducible refine (path_Parse.calls t204 t207 t208 _ A8.out).mono ?_); rintro e w14 ⟨v209, rfl, ho0, hb⟩; refine ⟨_, rfl, ?_⟩; have n0_ := Aside0.mk (Kd.R_lower ho0 (below_size (by repeat (first | (with_reducible first | exact HB.out | apply below_alloc | apply pw_below_drewN | apply below_drew1) | exact HB.out)))); have n1_ := Aside0.mk (below_step (by repeat (first | (with_reducible first | exact HB.out | apply below_alloc | apply pw_below_drewN | apply below_drew1) | exact HB.out)) hb); clear HB; have HO210 := n0_; have HB := n1_; clear n0_ n1_; (try clear hb); (try clear hb2); (try clear hk); (try clear hi); (try clear ho0)))
  (try simp only [Act.put, List.setIfInBounds_toArray, List.set_cons_zero, List.set_cons_succ])
  go_cut [71] (fun v71 wc => ∃ (kq : Nat) (x71_8 : Bool), v71 = .bool x71_8 ∧ Aside0 (moatlaw13_PathOrder.j0 kq t203 t204 x71_8 = some r) ∧ Aside0 (kq ≤ k) ∧ Aside0 (Below w.heap.size w wc))
  case first =>
    have H := HC9.out
    clear HC9
    replace H := Option.bind_eq_some_iff.mp H
    obtain ⟨t211, A150, H⟩ := H
    replace H : (if (t211 != (t208 == 0)) = true then (moatlaw13_PathOrder.j0 k t203 t204 true) else ((path_Under.f t204 (⟨#[47]⟩ : ByteArray)).bind fun t212 => (if (t212 != (t208 == 0)) = true then (moatlaw13_PathOrder.j0 k t203 t204 true) else ((path_Under.f t204 t205).bind fun t213 => (if t213 = true then ((path_Under.f t205 t206).bind fun t214 => (if t214 = true then ((path_Under.f t204 t206).bind fun t215 => (if t215 = true then ((path_Under.f t204 t205).bind fun t216 => (if t216 = true then ((path_Under.f t205 t204).bind fun t217 => (if t217 = true then (moatlaw13_PathOrder.j0 k t203 t204 (t204.toList != t205.toList)) else (moatlaw13_PathOrder.j0 k t203 t204 false))) else (moatlaw13_PathOrder.j0 k t203 t204 false))) else (moatlaw13_PathOrder.j0 k t203 t204 true))) else ((path_Under.f t204 t205).bind fun t218 => (if t218 = true then ((path_Under.f t205 t204).bind fun t219 => (if t219 = true then (moatlaw13_PathOrder.j0 k t203 t204 (t204.toList != t205.toList)) else (moatlaw13_PathOrder.j0 k t203 t204 false))) else (moatlaw13_PathOrder.j0 k t203 t204 false))))) else ((path_Under.f t204 t205).bind fun t220 => (if t220 = true then ((path_Under.f t205 t204).bind fun t221 => (if t221 = true then (moatlaw13_PathOrder.j0 k t203 t204 (t204.toList != t205.toList)) else (moatlaw13_PathOrder.j0 k t203 t204 false))) else (moatlaw13_PathOrder.j0 k t203 t204 false)))))))) = some r := H
    have A15 := Aside0.mk A150
    clear A150
    by_cases c16 : (t211 != (t208 == 0)) = true
    · rw [if_pos c16] at H
      have c16b0 : (t211 != (t208 == 0)) = true := c16
      (try (have c16b1 : decide (t211 = (t208 == 0)) = false := by simpa using c16))
      (try (have c16b2 : (t211 == (t208 == 0)) = false := by simpa using c16))
      (try (have c16b3 : ¬ (t211 = (t208 == 0)) := by simpa using c16))
      clear c16
      (first | rw [c16b0] | (simp only [i64_w, i32_w]; rw [c16b0]) | skip)
      have H' := Aside0.mk H
      clear H
      go_wp2_with (first | ((with_reducible refine gate_callee (f := 19) rfl ?_); refine goesL_ (some 30) rfl rfl Try.func19 (by kernel_rfl) rfl #[.string t204, .string t204] rfl (by (try simp only [List.map_toArray, List.map_cons, List.map_nil]); first | done | rfl | (simp only [List.length_drop, List.length_take]; rfl)) ?_; (with_reducible refine (path_Under.calls t204 t204 t211 _ A15.out).mono ?_); rintro e w17 ⟨rfl, hb⟩; refine ⟨_, rfl, ?_⟩; have n0_ := Aside0.mk (Kd.R_below (by (with_reducible repeat (first | apply Kd.R_alloc | apply Kd.R_drewN | apply Kd.R_drew)); exact HO210.out) hb); have n1_ := Aside0.mk (below_step (by repeat (first | (with_reducible first | exact HB.out | apply below_alloc | apply pw_below_drewN | apply below_drew1) | exact HB.out)) hb); clear HO210; clear HB; have HO210 := n0_; have HB := n1_; clear n0_ n1_; (try clear hb); (try clear hb2); (try clear hk); (try clear hi)))
      go_meet
      case rel => exact ⟨_, (true), (by first | rfl | (simp; done) | (simp [*]; done)), H', ⟨by first | omega | exact Nat.le_refl _⟩, ⟨by repeat (first | (with_reducible first | exact HB.out | apply below_alloc | apply pw_below_drewN | apply below_drew1) | exact HB.out)⟩⟩
    · rw [if_neg c16] at H
      have c16b0 : (t211 != (t208 == 0)) = false := by simpa using c16
      (try (have c16b1 : decide (t211 = (t208 == 0)) = true := by simpa using c16))
      (try (have c16b2 : (t211 == (t208 == 0)) = true := by simpa using c16))
      clear c16
      (first | rw [c16b0] | (simp only [i64_w, i32_w]; rw [c16b0]) | skip)
      replace H := Option.bind_eq_some_iff.mp H
      obtain ⟨t212, A180, H⟩ := H
      replace H : (if (t212 != (t208 == 0)) = true then (moatlaw13_PathOrder.j0 k t203 t204 true) else ((path_Under.f t204 t205).bind fun t213 => (if t213 = true then ((path_Under.f t205 t206).bind fun t214 => (if t214 = true then ((path_Under.f t204 t206).bind fun t215 => (if t215 = true then ((path_Under.f t204 t205).bind fun t216 => (if t216 = true then ((path_Under.f t205 t204).bind fun t217 => (if t217 = true then (moatlaw13_PathOrder.j0 k t203 t204 (t204.toList != t205.toList)) else (moatlaw13_PathOrder.j0 k t203 t204 false))) else (moatlaw13_PathOrder.j0 k t203 t204 false))) else (moatlaw13_PathOrder.j0 k t203 t204 true))) else ((path_Under.f t204 t205).bind fun t218 => (if t218 = true then ((path_Under.f t205 t204).bind fun t219 => (if t219 = true then (moatlaw13_PathOrder.j0 k t203 t204 (t204.toList != t205.toList)) else (moatlaw13_PathOrder.j0 k t203 t204 false))) else (moatlaw13_PathOrder.j0 k t203 t204 false))))) else ((path_Under.f t204 t205).bind fun t220 => (if t220 = true then ((path_Under.f t205 t204).bind fun t221 => (if t221 = true then (moatlaw13_PathOrder.j0 k t203 t204 (t204.toList != t205.toList)) else (moatlaw13_PathOrder.j0 k t203 t204 false))) else (moatlaw13_PathOrder.j0 k t203 t204 false)))))) = some r := H
      have A18 := Aside0.mk A180
      clear A180
      by_cases c19 : (t212 != (t208 == 0)) = true
      · rw [if_pos c19] at H
        have c19b0 : (t212 != (t208 == 0)) = true := c19
        (try (have c19b1 : decide (t212 = (t208 == 0)) = false := by simpa using c19))
        (try (have c19b2 : (t212 == (t208 == 0)) = false := by simpa using c19))
        (try (have c19b3 : ¬ (t212 = (t208 == 0)) := by simpa using c19))
        clear c19
        have H' := Aside0.mk H
        clear H
        go_wp2_with (first | ((with_reducible refine gate_callee (f := 19) rfl ?_); refine goesL_ (some 30) rfl rfl Try.func19 (by kernel_rfl) rfl #[.string t204, .string t204] rfl (by (try simp only [List.map_toArray, List.map_cons, List.map_nil]); first | done | rfl | (simp only [List.length_drop, List.length_take]; rfl)) ?_; (with_reducible refine (path_Under.calls t204 t204 t211 _ A15.out).mono ?_); rintro e w20 ⟨rfl, hb⟩; refine ⟨_, rfl, ?_⟩; have n0_ := Aside0.mk (Kd.R_below (by (with_reducible repeat (first | apply Kd.R_alloc | apply Kd.R_drewN | apply Kd.R_drew)); exact HO210.out) hb); have n1_ := Aside0.mk (below_step (by repeat (first | (with_reducible first | exact HB.out | apply below_alloc | apply pw_below_drewN | apply below_drew1) | exact HB.out)) hb); clear HO210; clear HB; have HO210 := n0_; have HB := n1_; clear n0_ n1_; (try clear hb); (try clear hb2); (try clear hk); (try clear hi)) | (go_at_call 19; (with_reducible refine (path_Under.calls t204 (⟨#[47]⟩ : ByteArray) t212 _ A18.out).mono ?_); rintro e w21 ⟨rfl, hb⟩; have n0_ := Aside0.mk (Kd.R_below (by (with_reducible repeat (first | apply Kd.R_alloc | apply Kd.R_drewN | apply Kd.R_drew)); exact HO210.out) hb); have n1_ := Aside0.mk (below_step (by repeat (first | (with_reducible first | exact HB.out | apply below_alloc | apply pw_below_drewN | apply below_drew1) | exact HB.out)) hb); clear HO210; clear HB; have HO210 := n0_; have HB := n1_; clear n0_ n1_; (try clear hb); (try clear hb2); (try clear hk); (try clear hi)))
        go_meet
        case rel => exact ⟨_, (true), (by first | rfl | (simp; done) | (simp [*]; done)), H', ⟨by first | omega | exact Nat.le_refl _⟩, ⟨by repeat (first | (with_reducible first | exact HB.out | apply below_alloc | apply pw_below_drewN | apply below_drew1) | exact HB.out)⟩⟩
      · rw [if_neg c19] at H
        have c19b0 : (t212 != (t208 == 0)) = false := by simpa using c19
        (try (have c19b1 : decide (t212 = (t208 == 0)) = true := by simpa using c19))
        (try (have c19b2 : (t212 == (t208 == 0)) = true := by simpa using c19))
        clear c19
        replace H := Option.bind_eq_some_iff.mp H
        obtain ⟨t213, A220, H⟩ := H
        replace H : (if t213 = true then ((path_Under.f t205 t206).bind fun t214 => (if t214 = true then ((path_Under.f t204 t206).bind fun t215 => (if t215 = true then ((path_Under.f t204 t205).bind fun t216 => (if t216 = true then ((path_Under.f t205 t204).bind fun t217 => (if t217 = true then (moatlaw13_PathOrder.j0 k t203 t204 (t204.toList != t205.toList)) else (moatlaw13_PathOrder.j0 k t203 t204 false))) else (moatlaw13_PathOrder.j0 k t203 t204 false))) else (moatlaw13_PathOrder.j0 k t203 t204 true))) else ((path_Under.f t204 t205).bind fun t218 => (if t218 = true then ((path_Under.f t205 t204).bind fun t219 => (if t219 = true then (moatlaw13_PathOrder.j0 k t203 t204 (t204.toList != t205.toList)) else (moatlaw13_PathOrder.j0 k t203 t204 false))) else (moatlaw13_PathOrder.j0 k t203 t204 false))))) else ((path_Under.f t204 t205).bind fun t220 => (if t220 = true then ((path_Under.f t205 t204).bind fun t221 => (if t221 = true then (moatlaw13_PathOrder.j0 k t203 t204 (t204.toList != t205.toList)) else (moatlaw13_PathOrder.j0 k t203 t204 false))) else (moatlaw13_PathOrder.j0 k t203 t204 false)))) = some r := H
        have A22 := Aside0.mk A220
        clear A220
        by_cases c23 : t213 = true
        · subst c23
          have H1 : ((path_Under.f t205 t206).bind fun t214 => (if t214 = true then ((path_Under.f t204 t206).bind fun t215 => (if t215 = true then ((path_Under.f t204 t205).bind fun t216 => (if t216 = true then ((path_Under.f t205 t204).bind fun t217 => (if t217 = true then (moatlaw13_PathOrder.j0 k t203 t204 (t204.toList != t205.toList)) else (moatlaw13_PathOrder.j0 k t203 t204 false))) else (moatlaw13_PathOrder.j0 k t203 t204 false))) else (moatlaw13_PathOrder.j0 k t203 t204 true))) else ((path_Under.f t204 t205).bind fun t218 => (if t218 = true then ((path_Under.f t205 t204).bind fun t219 => (if t219 = true then (moatlaw13_PathOrder.j0 k t203 t204 (t204.toList != t205.toList)) else (moatlaw13_PathOrder.j0 k t203 t204 false))) else (moatlaw13_PathOrder.j0 k t203 t204 false))))) = some r := by rw [if_pos rfl] at H; exact H
          clear H
          have H := H1
          clear H1
          replace H := Option.bind_eq_some_iff.mp H
          obtain ⟨t214, A240, H⟩ := H
          replace H : (if t214 = true then ((path_Under.f t204 t206).bind fun t215 => (if t215 = true then ((path_Under.f t204 t205).bind fun t216 => (if t216 = true then ((path_Under.f t205 t204).bind fun t217 => (if t217 = true then (moatlaw13_PathOrder.j0 k t203 t204 (t204.toList != t205.toList)) else (moatlaw13_PathOrder.j0 k t203 t204 false))) else (moatlaw13_PathOrder.j0 k t203 t204 false))) else (moatlaw13_PathOrder.j0 k t203 t204 true))) else ((path_Under.f t204 t205).bind fun t218 => (if t218 = true then ((path_Under.f t205 t204).bind fun t219 => (if t219 = true then (moatlaw13_PathOrder.j0 k t203 t204 (t204.toList != t205.toList)) else (moatlaw13_PathOrder.j0 k t203 t204 false))) else (moatlaw13_PathOrder.j0 k t203 t204 false)))) = some r := H
          have A24 := Aside0.mk A240
          clear A240
          by_cases c25 : t214 = true
          · subst c25
            have H1 : ((path_Under.f t204 t206).bind fun t215 => (if t215 = true then ((path_Under.f t204 t205).bind fun t216 => (if t216 = true then ((path_Under.f t205 t204).bind fun t217 => (if t217 = true then (moatlaw13_PathOrder.j0 k t203 t204 (t204.toList != t205.toList)) else (moatlaw13_PathOrder.j0 k t203 t204 false))) else (moatlaw13_PathOrder.j0 k t203 t204 false))) else (moatlaw13_PathOrder.j0 k t203 t204 true))) = some r := by rw [if_pos rfl] at H; exact H
            clear H
            have H := H1
            clear H1
            replace H := Option.bind_eq_some_iff.mp H
            obtain ⟨t215, A260, H⟩ := H
            replace H : (if t215 = true then ((path_Under.f t204 t205).bind fun t216 => (if t216 = true then ((path_Under.f t205 t204).bind fun t217 => (if t217 = true then (moatlaw13_PathOrder.j0 k t203 t204 (t204.toList != t205.toList)) else (moatlaw13_PathOrder.j0 k t203 t204 false))) else (moatlaw13_PathOrder.j0 k t203 t204 false))) else (moatlaw13_PathOrder.j0 k t203 t204 true)) = some r := H
            have A26 := Aside0.mk A260
            clear A260
            by_cases c27 : t215 = true
            · subst c27
              have H1 : ((path_Under.f t204 t205).bind fun t216 => (if t216 = true then ((path_Under.f t205 t204).bind fun t217 => (if t217 = true then (moatlaw13_PathOrder.j0 k t203 t204 (t204.toList != t205.toList)) else (moatlaw13_PathOrder.j0 k t203 t204 false))) else (moatlaw13_PathOrder.j0 k t203 t204 false))) = some r := by rw [if_pos rfl] at H; exact H
              clear H
              have H := H1
              clear H1
              replace H := Option.bind_eq_some_iff.mp H
              obtain ⟨t216, A280, H⟩ := H
              replace H : (if t216 = true then ((path_Under.f t205 t204).bind fun t217 => (if t217 = true then (moatlaw13_PathOrder.j0 k t203 t204 (t204.toList != t205.toList)) else (moatlaw13_PathOrder.j0 k t203 t204 false))) else (moatlaw13_PathOrder.j0 k t203 t204 false)) = some r := H
              have A28 := Aside0.mk A280
              clear A280
              by_cases c29 : t216 = true
              · subst c29
                have H1 : ((path_Under.f t205 t204).bind fun t217 => (if t217 = true then (moatlaw13_PathOrder.j0 k t203 t204 (t204.toList != t205.toList)) else (moatlaw13_PathOrder.j0 k t203 t204 false))) = some r := by rw [if_pos rfl] at H; exact H
                clear H
                have H := H1
                clear H1
                replace H := Option.bind_eq_some_iff.mp H
                obtain ⟨t217, A300, H⟩ := H
                replace H : (if t217 = true then (moatlaw13_PathOrder.j0 k t203 t204 (t204.toList != t205.toList)) else (moatlaw13_PathOrder.j0 k t203 t204 false)) = some r := H
                have A30 := Aside0.mk A300
                clear A300
                by_cases c31 : t217 = true
                · subst c31
                  have H1 : (moatlaw13_PathOrder.j0 k t203 t204 (t204.toList != t205.toList)) = some r := by rw [if_pos rfl] at H; exact H
                  clear H
                  have H := H1
                  clear H1
                  have H' := Aside0.mk H
                  clear H
                  go_wp2_with (first | ((with_reducible refine gate_callee (f := 19) rfl ?_); refine goesL_ (some 30) rfl rfl Try.func19 (by kernel_rfl) rfl #[.string t204, .string t204] rfl (by (try simp only [List.map_toArray, List.map_cons, List.map_nil]); first | done | rfl | (simp only [List.length_drop, List.length_take]; rfl)) ?_; (with_reducible refine (path_Under.calls t204 t204 t211 _ A15.out).mono ?_); rintro e w32 ⟨rfl, hb⟩; refine ⟨_, rfl, ?_⟩; have n0_ := Aside0.mk (Kd.R_below (by (with_reducible repeat (first | apply Kd.R_alloc | apply Kd.R_drewN | apply Kd.R_drew)); exact HO210.out) hb); have n1_ := Aside0.mk (below_step (by repeat (first | (with_reducible first | exact HB.out | apply below_alloc | apply pw_below_drewN | apply below_drew1) | exact HB.out)) hb); clear HO210; clear HB; have HO210 := n0_; have HB := n1_; clear n0_ n1_; (try clear hb); (try clear hb2); (try clear hk); (try clear hi)) | (go_at_call 19; (with_reducible refine (path_Under.calls t204 (⟨#[47]⟩ : ByteArray) t212 _ A18.out).mono ?_); rintro e w33 ⟨rfl, hb⟩; have n0_ := Aside0.mk (Kd.R_below (by (with_reducible repeat (first | apply Kd.R_alloc | apply Kd.R_drewN | apply Kd.R_drew)); exact HO210.out) hb); have n1_ := Aside0.mk (below_step (by repeat (first | (with_reducible first | exact HB.out | apply below_alloc | apply pw_below_drewN | apply below_drew1) | exact HB.out)) hb); clear HO210; clear HB; have HO210 := n0_; have HB := n1_; clear n0_ n1_; (try clear hb); (try clear hb2); (try clear hk); (try clear hi)) | (go_at_call 19; (with_reducible refine (path_Under.calls t204 t205 true _ A22.out).mono ?_); rintro e w34 ⟨rfl, hb⟩; have n0_ := Aside0.mk (Kd.R_below (by (with_reducible repeat (first | apply Kd.R_alloc | apply Kd.R_drewN | apply Kd.R_drew)); exact HO210.out) hb); have n1_ := Aside0.mk (below_step (by repeat (first | (with_reducible first | exact HB.out | apply below_alloc | apply pw_below_drewN | apply below_drew1) | exact HB.out)) hb); clear HO210; clear HB; have HO210 := n0_; have HB := n1_; clear n0_ n1_; (try clear hb); (try clear hb2); (try clear hk); (try clear hi)) | (go_at_call 19; (with_reducible refine (path_Under.calls t205 t206 true _ A24.out).mono ?_); rintro e w35 ⟨rfl, hb⟩; have n0_ := Aside0.mk (Kd.R_below (by (with_reducible repeat (first | apply Kd.R_alloc | apply Kd.R_drewN | apply Kd.R_drew)); exact HO210.out) hb); have n1_ := Aside0.mk (below_step (by repeat (first | (with_reducible first | exact HB.out | apply below_alloc | apply pw_below_drewN | apply below_drew1) | exact HB.out)) hb); clear HO210; clear HB; have HO210 := n0_; have HB := n1_; clear n0_ n1_; (try clear hb); (try clear hb2); (try clear hk); (try clear hi)) | (go_at_call 19; (with_reducible refine (path_Under.calls t204 t206 true _ A26.out).mono ?_); rintro e w36 ⟨rfl, hb⟩; have n0_ := Aside0.mk (Kd.R_below (by (with_reducible repeat (first | apply Kd.R_alloc | apply Kd.R_drewN | apply Kd.R_drew)); exact HO210.out) hb); have n1_ := Aside0.mk (below_step (by repeat (first | (with_reducible first | exact HB.out | apply below_alloc | apply pw_below_drewN | apply below_drew1) | exact HB.out)) hb); clear HO210; clear HB; have HO210 := n0_; have HB := n1_; clear n0_ n1_; (try clear hb); (try clear hb2); (try clear hk); (try clear hi)) | (go_at_call 19; (with_reducible refine (path_Under.calls t204 t205 true _ A28.out).mono ?_); rintro e w37 ⟨rfl, hb⟩; have n0_ := Aside0.mk (Kd.R_below (by (with_reducible repeat (first | apply Kd.R_alloc | apply Kd.R_drewN | apply Kd.R_drew)); exact HO210.out) hb); have n1_ := Aside0.mk (below_step (by repeat (first | (with_reducible first | exact HB.out | apply below_alloc | apply pw_below_drewN | apply below_drew1) | exact HB.out)) hb); clear HO210; clear HB; have HO210 := n0_; have HB := n1_; clear n0_ n1_; (try clear hb); (try clear hb2); (try clear hk); (try clear hi)) | (go_at_call 19; (with_reducible refine (path_Under.calls t205 t204 true _ A30.out).mono ?_); rintro e w38 ⟨rfl, hb⟩; have n0_ := Aside0.mk (Kd.R_below (by (with_reducible repeat (first | apply Kd.R_alloc | apply Kd.R_drewN | apply Kd.R_drew)); exact HO210.out) hb); have n1_ := Aside0.mk (below_step (by repeat (first | (with_reducible first | exact HB.out | apply below_alloc | apply pw_below_drewN | apply below_drew1) | exact HB.out)) hb); clear HO210; clear HB; have HO210 := n0_; have HB := n1_; clear n0_ n1_; (try clear hb); (try clear hb2); (try clear hk); (try clear hi)))
                  go_meet
                  case rel => exact ⟨_, ((t204.toList != t205.toList)), (by first | rfl | (simp; done) | (simp [*]; done)), H', ⟨by first | omega | exact Nat.le_refl _⟩, ⟨by repeat (first | (with_reducible first | exact HB.out | apply below_alloc | apply pw_below_drewN | apply below_drew1) | exact HB.out)⟩⟩
                · replace c31 := Bool.eq_false_iff.mpr c31
                  subst c31
                  have H1 : (moatlaw13_PathOrder.j0 k t203 t204 false) = some r := by rw [if_neg (show ¬ (false = true) by decide)] at H; exact H
                  clear H
                  have H := H1
                  clear H1
                  have H' := Aside0.mk H
                  clear H
                  go_wp2_with (first | ((with_reducible refine gate_callee (f := 19) rfl ?_); refine goesL_ (some 30) rfl rfl Try.func19 (by kernel_rfl) rfl #[.string t204, .string t204] rfl (by (try simp only [List.map_toArray, List.map_cons, List.map_nil]); first | done | rfl | (simp only [List.length_drop, List.length_take]; rfl)) ?_; (with_reducible refine (path_Under.calls t204 t204 t211 _ A15.out).mono ?_); rintro e w39 ⟨rfl, hb⟩; refine ⟨_, rfl, ?_⟩; have n0_ := Aside0.mk (Kd.R_below (by (with_reducible repeat (first | apply Kd.R_alloc | apply Kd.R_drewN | apply Kd.R_drew)); exact HO210.out) hb); have n1_ := Aside0.mk (below_step (by repeat (first | (with_reducible first | exact HB.out | apply below_alloc | apply pw_below_drewN | apply below_drew1) | exact HB.out)) hb); clear HO210; clear HB; have HO210 := n0_; have HB := n1_; clear n0_ n1_; (try clear hb); (try clear hb2); (try clear hk); (try clear hi)) | (go_at_call 19; (with_reducible refine (path_Under.calls t204 (⟨#[47]⟩ : ByteArray) t212 _ A18.out).mono ?_); rintro e w40 ⟨rfl, hb⟩; have n0_ := Aside0.mk (Kd.R_below (by (with_reducible repeat (first | apply Kd.R_alloc | apply Kd.R_drewN | apply Kd.R_drew)); exact HO210.out) hb); have n1_ := Aside0.mk (below_step (by repeat (first | (with_reducible first | exact HB.out | apply below_alloc | apply pw_below_drewN | apply below_drew1) | exact HB.out)) hb); clear HO210; clear HB; have HO210 := n0_; have HB := n1_; clear n0_ n1_; (try clear hb); (try clear hb2); (try clear hk); (try clear hi)) | (go_at_call 19; (with_reducible refine (path_Under.calls t204 t205 true _ A22.out).mono ?_); rintro e w41 ⟨rfl, hb⟩; have n0_ := Aside0.mk (Kd.R_below (by (with_reducible repeat (first | apply Kd.R_alloc | apply Kd.R_drewN | apply Kd.R_drew)); exact HO210.out) hb); have n1_ := Aside0.mk (below_step (by repeat (first | (with_reducible first | exact HB.out | apply below_alloc | apply pw_below_drewN | apply below_drew1) | exact HB.out)) hb); clear HO210; clear HB; have HO210 := n0_; have HB := n1_; clear n0_ n1_; (try clear hb); (try clear hb2); (try clear hk); (try clear hi)) | (go_at_call 19; (with_reducible refine (path_Under.calls t205 t206 true _ A24.out).mono ?_); rintro e w42 ⟨rfl, hb⟩; have n0_ := Aside0.mk (Kd.R_below (by (with_reducible repeat (first | apply Kd.R_alloc | apply Kd.R_drewN | apply Kd.R_drew)); exact HO210.out) hb); have n1_ := Aside0.mk (below_step (by repeat (first | (with_reducible first | exact HB.out | apply below_alloc | apply pw_below_drewN | apply below_drew1) | exact HB.out)) hb); clear HO210; clear HB; have HO210 := n0_; have HB := n1_; clear n0_ n1_; (try clear hb); (try clear hb2); (try clear hk); (try clear hi)) | (go_at_call 19; (with_reducible refine (path_Under.calls t204 t206 true _ A26.out).mono ?_); rintro e w43 ⟨rfl, hb⟩; have n0_ := Aside0.mk (Kd.R_below (by (with_reducible repeat (first | apply Kd.R_alloc | apply Kd.R_drewN | apply Kd.R_drew)); exact HO210.out) hb); have n1_ := Aside0.mk (below_step (by repeat (first | (with_reducible first | exact HB.out | apply below_alloc | apply pw_below_drewN | apply below_drew1) | exact HB.out)) hb); clear HO210; clear HB; have HO210 := n0_; have HB := n1_; clear n0_ n1_; (try clear hb); (try clear hb2); (try clear hk); (try clear hi)) | (go_at_call 19; (with_reducible refine (path_Under.calls t204 t205 true _ A28.out).mono ?_); rintro e w44 ⟨rfl, hb⟩; have n0_ := Aside0.mk (Kd.R_below (by (with_reducible repeat (first | apply Kd.R_alloc | apply Kd.R_drewN | apply Kd.R_drew)); exact HO210.out) hb); have n1_ := Aside0.mk (below_step (by repeat (first | (with_reducible first | exact HB.out | apply below_alloc | apply pw_below_drewN | apply below_drew1) | exact HB.out)) hb); clear HO210; clear HB; have HO210 := n0_; have HB := n1_; clear n0_ n1_; (try clear hb); (try clear hb2); (try clear hk); (try clear hi)) | (go_at_call 19; (with_reducible refine (path_Under.calls t205 t204 false _ A30.out).mono ?_); rintro e w45 ⟨rfl, hb⟩; have n0_ := Aside0.mk (Kd.R_below (by (with_reducible repeat (first | apply Kd.R_alloc | apply Kd.R_drewN | apply Kd.R_drew)); exact HO210.out) hb); have n1_ := Aside0.mk (below_step (by repeat (first | (with_reducible first | exact HB.out | apply below_alloc | apply pw_below_drewN | apply below_drew1) | exact HB.out)) hb); clear HO210; clear HB; have HO210 := n0_; have HB := n1_; clear n0_ n1_; (try clear hb); (try clear hb2); (try clear hk); (try clear hi)))
                  go_meet
                  case rel => exact ⟨_, (false), (by first | rfl | (simp; done) | (simp [*]; done)), H', ⟨by first | omega | exact Nat.le_refl _⟩, ⟨by repeat (first | (with_reducible first | exact HB.out | apply below_alloc | apply pw_below_drewN | apply below_drew1) | exact HB.out)⟩⟩
              · exact absurd (Option.some.inj (A22.out.symm.trans A28.out)) (fun e => c29 e.symm)
            · replace c27 := Bool.eq_false_iff.mpr c27
              subst c27
              have H1 : (moatlaw13_PathOrder.j0 k t203 t204 true) = some r := by rw [if_neg (show ¬ (false = true) by decide)] at H; exact H
              clear H
              have H := H1
              clear H1
              have H' := Aside0.mk H
              clear H
              go_wp2_with (first | ((with_reducible refine gate_callee (f := 19) rfl ?_); refine goesL_ (some 30) rfl rfl Try.func19 (by kernel_rfl) rfl #[.string t204, .string t204] rfl (by (try simp only [List.map_toArray, List.map_cons, List.map_nil]); first | done | rfl | (simp only [List.length_drop, List.length_take]; rfl)) ?_; (with_reducible refine (path_Under.calls t204 t204 t211 _ A15.out).mono ?_); rintro e w52 ⟨rfl, hb⟩; refine ⟨_, rfl, ?_⟩; have n0_ := Aside0.mk (Kd.R_below (by (with_reducible repeat (first | apply Kd.R_alloc | apply Kd.R_drewN | apply Kd.R_drew)); exact HO210.out) hb); have n1_ := Aside0.mk (below_step (by repeat (first | (with_reducible first | exact HB.out | apply below_alloc | apply pw_below_drewN | apply below_drew1) | exact HB.out)) hb); clear HO210; clear HB; have HO210 := n0_; have HB := n1_; clear n0_ n1_; (try clear hb); (try clear hb2); (try clear hk); (try clear hi)) | (go_at_call 19; (with_reducible refine (path_Under.calls t204 (⟨#[47]⟩ : ByteArray) t212 _ A18.out).mono ?_); rintro e w53 ⟨rfl, hb⟩; have n0_ := Aside0.mk (Kd.R_below (by (with_reducible repeat (first | apply Kd.R_alloc | apply Kd.R_drewN | apply Kd.R_drew)); exact HO210.out) hb); have n1_ := Aside0.mk (below_step (by repeat (first | (with_reducible first | exact HB.out | apply below_alloc | apply pw_below_drewN | apply below_drew1) | exact HB.out)) hb); clear HO210; clear HB; have HO210 := n0_; have HB := n1_; clear n0_ n1_; (try clear hb); (try clear hb2); (try clear hk); (try clear hi)) | (go_at_call 19; (with_reducible refine (path_Under.calls t204 t205 true _ A22.out).mono ?_); rintro e w54 ⟨rfl, hb⟩; have n0_ := Aside0.mk (Kd.R_below (by (with_reducible repeat (first | apply Kd.R_alloc | apply Kd.R_drewN | apply Kd.R_drew)); exact HO210.out) hb); have n1_ := Aside0.mk (below_step (by repeat (first | (with_reducible first | exact HB.out | apply below_alloc | apply pw_below_drewN | apply below_drew1) | exact HB.out)) hb); clear HO210; clear HB; have HO210 := n0_; have HB := n1_; clear n0_ n1_; (try clear hb); (try clear hb2); (try clear hk); (try clear hi)) | (go_at_call 19; (with_reducible refine (path_Under.calls t205 t206 true _ A24.out).mono ?_); rintro e w55 ⟨rfl, hb⟩; have n0_ := Aside0.mk (Kd.R_below (by (with_reducible repeat (first | apply Kd.R_alloc | apply Kd.R_drewN | apply Kd.R_drew)); exact HO210.out) hb); have n1_ := Aside0.mk (below_step (by repeat (first | (with_reducible first | exact HB.out | apply below_alloc | apply pw_below_drewN | apply below_drew1) | exact HB.out)) hb); clear HO210; clear HB; have HO210 := n0_; have HB := n1_; clear n0_ n1_; (try clear hb); (try clear hb2); (try clear hk); (try clear hi)) | (go_at_call 19; (with_reducible refine (path_Under.calls t204 t206 false _ A26.out).mono ?_); rintro e w56 ⟨rfl, hb⟩; have n0_ := Aside0.mk (Kd.R_below (by (with_reducible repeat (first | apply Kd.R_alloc | apply Kd.R_drewN | apply Kd.R_drew)); exact HO210.out) hb); have n1_ := Aside0.mk (below_step (by repeat (first | (with_reducible first | exact HB.out | apply below_alloc | apply pw_below_drewN | apply below_drew1) | exact HB.out)) hb); clear HO210; clear HB; have HO210 := n0_; have HB := n1_; clear n0_ n1_; (try clear hb); (try clear hb2); (try clear hk); (try clear hi)))
              go_meet
              case rel => exact ⟨_, (true), (by first | rfl | (simp; done) | (simp [*]; done)), H', ⟨by first | omega | exact Nat.le_refl _⟩, ⟨by repeat (first | (with_reducible first | exact HB.out | apply below_alloc | apply pw_below_drewN | apply below_drew1) | exact HB.out)⟩⟩
          · replace c25 := Bool.eq_false_iff.mpr c25
            subst c25
            have H1 : ((path_Under.f t204 t205).bind fun t218 => (if t218 = true then ((path_Under.f t205 t204).bind fun t219 => (if t219 = true then (moatlaw13_PathOrder.j0 k t203 t204 (t204.toList != t205.toList)) else (moatlaw13_PathOrder.j0 k t203 t204 false))) else (moatlaw13_PathOrder.j0 k t203 t204 false))) = some r := by rw [if_neg (show ¬ (false = true) by decide)] at H; exact H
            clear H
            have H := H1
            clear H1
            replace H := Option.bind_eq_some_iff.mp H
            obtain ⟨t218, A570, H⟩ := H
            replace H : (if t218 = true then ((path_Under.f t205 t204).bind fun t219 => (if t219 = true then (moatlaw13_PathOrder.j0 k t203 t204 (t204.toList != t205.toList)) else (moatlaw13_PathOrder.j0 k t203 t204 false))) else (moatlaw13_PathOrder.j0 k t203 t204 false)) = some r := H
            have A57 := Aside0.mk A570
            clear A570
            by_cases c58 : t218 = true
            · subst c58
              have H1 : ((path_Under.f t205 t204).bind fun t219 => (if t219 = true then (moatlaw13_PathOrder.j0 k t203 t204 (t204.toList != t205.toList)) else (moatlaw13_PathOrder.j0 k t203 t204 false))) = some r := by rw [if_pos rfl] at H; exact H
              clear H
              have H := H1
              clear H1
              replace H := Option.bind_eq_some_iff.mp H
              obtain ⟨t219, A590, H⟩ := H
              replace H : (if t219 = true then (moatlaw13_PathOrder.j0 k t203 t204 (t204.toList != t205.toList)) else (moatlaw13_PathOrder.j0 k t203 t204 false)) = some r := H
              have A59 := Aside0.mk A590
              clear A590
              by_cases c60 : t219 = true
              · subst c60
                have H1 : (moatlaw13_PathOrder.j0 k t203 t204 (t204.toList != t205.toList)) = some r := by rw [if_pos rfl] at H; exact H
                clear H
                have H := H1
                clear H1
                have H' := Aside0.mk H
                clear H
                go_wp2_with (first | ((with_reducible refine gate_callee (f := 19) rfl ?_); refine goesL_ (some 30) rfl rfl Try.func19 (by kernel_rfl) rfl #[.string t204, .string t204] rfl (by (try simp only [List.map_toArray, List.map_cons, List.map_nil]); first | done | rfl | (simp only [List.length_drop, List.length_take]; rfl)) ?_; (with_reducible refine (path_Under.calls t204 t204 t211 _ A15.out).mono ?_); rintro e w61 ⟨rfl, hb⟩; refine ⟨_, rfl, ?_⟩; have n0_ := Aside0.mk (Kd.R_below (by (with_reducible repeat (first | apply Kd.R_alloc | apply Kd.R_drewN | apply Kd.R_drew)); exact HO210.out) hb); have n1_ := Aside0.mk (below_step (by repeat (first | (with_reducible first | exact HB.out | apply below_alloc | apply pw_below_drewN | apply below_drew1) | exact HB.out)) hb); clear HO210; clear HB; have HO210 := n0_; have HB := n1_; clear n0_ n1_; (try clear hb); (try clear hb2); (try clear hk); (try clear hi)) | (go_at_call 19; (with_reducible refine (path_Under.calls t204 (⟨#[47]⟩ : ByteArray) t212 _ A18.out).mono ?_); rintro e w62 ⟨rfl, hb⟩; have n0_ := Aside0.mk (Kd.R_below (by (with_reducible repeat (first | apply Kd.R_alloc | apply Kd.R_drewN | apply Kd.R_drew)); exact HO210.out) hb); have n1_ := Aside0.mk (below_step (by repeat (first | (with_reducible first | exact HB.out | apply below_alloc | apply pw_below_drewN | apply below_drew1) | exact HB.out)) hb); clear HO210; clear HB; have HO210 := n0_; have HB := n1_; clear n0_ n1_; (try clear hb); (try clear hb2); (try clear hk); (try clear hi)) | (go_at_call 19; (with_reducible refine (path_Under.calls t204 t205 true _ A22.out).mono ?_); rintro e w63 ⟨rfl, hb⟩; have n0_ := Aside0.mk (Kd.R_below (by (with_reducible repeat (first | apply Kd.R_alloc | apply Kd.R_drewN | apply Kd.R_drew)); exact HO210.out) hb); have n1_ := Aside0.mk (below_step (by repeat (first | (with_reducible first | exact HB.out | apply below_alloc | apply pw_below_drewN | apply below_drew1) | exact HB.out)) hb); clear HO210; clear HB; have HO210 := n0_; have HB := n1_; clear n0_ n1_; (try clear hb); (try clear hb2); (try clear hk); (try clear hi)) | (go_at_call 19; (with_reducible refine (path_Under.calls t205 t206 false _ A24.out).mono ?_); rintro e w64 ⟨rfl, hb⟩; have n0_ := Aside0.mk (Kd.R_below (by (with_reducible repeat (first | apply Kd.R_alloc | apply Kd.R_drewN | apply Kd.R_drew)); exact HO210.out) hb); have n1_ := Aside0.mk (below_step (by repeat (first | (with_reducible first | exact HB.out | apply below_alloc | apply pw_below_drewN | apply below_drew1) | exact HB.out)) hb); clear HO210; clear HB; have HO210 := n0_; have HB := n1_; clear n0_ n1_; (try clear hb); (try clear hb2); (try clear hk); (try clear hi)) | (go_at_call 19; (with_reducible refine (path_Under.calls t204 t205 true _ A57.out).mono ?_); rintro e w65 ⟨rfl, hb⟩; have n0_ := Aside0.mk (Kd.R_below (by (with_reducible repeat (first | apply Kd.R_alloc | apply Kd.R_drewN | apply Kd.R_drew)); exact HO210.out) hb); have n1_ := Aside0.mk (below_step (by repeat (first | (with_reducible first | exact HB.out | apply below_alloc | apply pw_below_drewN | apply below_drew1) | exact HB.out)) hb); clear HO210; clear HB; have HO210 := n0_; have HB := n1_; clear n0_ n1_; (try clear hb); (try clear hb2); (try clear hk); (try clear hi)) | (go_at_call 19; (with_reducible refine (path_Under.calls t205 t204 true _ A59.out).mono ?_); rintro e w66 ⟨rfl, hb⟩; have n0_ := Aside0.mk (Kd.R_below (by (with_reducible repeat (first | apply Kd.R_alloc | apply Kd.R_drewN | apply Kd.R_drew)); exact HO210.out) hb); have n1_ := Aside0.mk (below_step (by repeat (first | (with_reducible first | exact HB.out | apply below_alloc | apply pw_below_drewN | apply below_drew1) | exact HB.out)) hb); clear HO210; clear HB; have HO210 := n0_; have HB := n1_; clear n0_ n1_; (try clear hb); (try clear hb2); (try clear hk); (try clear hi)))
                go_meet
                case rel => exact ⟨_, ((t204.toList != t205.toList)), (by first | rfl | (simp; done) | (simp [*]; done)), H', ⟨by first | omega | exact Nat.le_refl _⟩, ⟨by repeat (first | (with_reducible first | exact HB.out | apply below_alloc | apply pw_below_drewN | apply below_drew1) | exact HB.out)⟩⟩
              · replace c60 := Bool.eq_false_iff.mpr c60
                subst c60
                have H1 : (moatlaw13_PathOrder.j0 k t203 t204 false) = some r := by rw [if_neg (show ¬ (false = true) by decide)] at H; exact H
                clear H
                have H := H1
                clear H1
                have H' := Aside0.mk H
                clear H
                go_wp2_with (first | ((with_reducible refine gate_callee (f := 19) rfl ?_); refine goesL_ (some 30) rfl rfl Try.func19 (by kernel_rfl) rfl #[.string t204, .string t204] rfl (by (try simp only [List.map_toArray, List.map_cons, List.map_nil]); first | done | rfl | (simp only [List.length_drop, List.length_take]; rfl)) ?_; (with_reducible refine (path_Under.calls t204 t204 t211 _ A15.out).mono ?_); rintro e w67 ⟨rfl, hb⟩; refine ⟨_, rfl, ?_⟩; have n0_ := Aside0.mk (Kd.R_below (by (with_reducible repeat (first | apply Kd.R_alloc | apply Kd.R_drewN | apply Kd.R_drew)); exact HO210.out) hb); have n1_ := Aside0.mk (below_step (by repeat (first | (with_reducible first | exact HB.out | apply below_alloc | apply pw_below_drewN | apply below_drew1) | exact HB.out)) hb); clear HO210; clear HB; have HO210 := n0_; have HB := n1_; clear n0_ n1_; (try clear hb); (try clear hb2); (try clear hk); (try clear hi)) | (go_at_call 19; (with_reducible refine (path_Under.calls t204 (⟨#[47]⟩ : ByteArray) t212 _ A18.out).mono ?_); rintro e w68 ⟨rfl, hb⟩; have n0_ := Aside0.mk (Kd.R_below (by (with_reducible repeat (first | apply Kd.R_alloc | apply Kd.R_drewN | apply Kd.R_drew)); exact HO210.out) hb); have n1_ := Aside0.mk (below_step (by repeat (first | (with_reducible first | exact HB.out | apply below_alloc | apply pw_below_drewN | apply below_drew1) | exact HB.out)) hb); clear HO210; clear HB; have HO210 := n0_; have HB := n1_; clear n0_ n1_; (try clear hb); (try clear hb2); (try clear hk); (try clear hi)) | (go_at_call 19; (with_reducible refine (path_Under.calls t204 t205 true _ A22.out).mono ?_); rintro e w69 ⟨rfl, hb⟩; have n0_ := Aside0.mk (Kd.R_below (by (with_reducible repeat (first | apply Kd.R_alloc | apply Kd.R_drewN | apply Kd.R_drew)); exact HO210.out) hb); have n1_ := Aside0.mk (below_step (by repeat (first | (with_reducible first | exact HB.out | apply below_alloc | apply pw_below_drewN | apply below_drew1) | exact HB.out)) hb); clear HO210; clear HB; have HO210 := n0_; have HB := n1_; clear n0_ n1_; (try clear hb); (try clear hb2); (try clear hk); (try clear hi)) | (go_at_call 19; (with_reducible refine (path_Under.calls t205 t206 false _ A24.out).mono ?_); rintro e w70 ⟨rfl, hb⟩; have n0_ := Aside0.mk (Kd.R_below (by (with_reducible repeat (first | apply Kd.R_alloc | apply Kd.R_drewN | apply Kd.R_drew)); exact HO210.out) hb); have n1_ := Aside0.mk (below_step (by repeat (first | (with_reducible first | exact HB.out | apply below_alloc | apply pw_below_drewN | apply below_drew1) | exact HB.out)) hb); clear HO210; clear HB; have HO210 := n0_; have HB := n1_; clear n0_ n1_; (try clear hb); (try clear hb2); (try clear hk); (try clear hi)) | (go_at_call 19; (with_reducible refine (path_Under.calls t204 t205 true _ A57.out).mono ?_); rintro e w71 ⟨rfl, hb⟩; have n0_ := Aside0.mk (Kd.R_below (by (with_reducible repeat (first | apply Kd.R_alloc | apply Kd.R_drewN | apply Kd.R_drew)); exact HO210.out) hb); have n1_ := Aside0.mk (below_step (by repeat (first | (with_reducible first | exact HB.out | apply below_alloc | apply pw_below_drewN | apply below_drew1) | exact HB.out)) hb); clear HO210; clear HB; have HO210 := n0_; have HB := n1_; clear n0_ n1_; (try clear hb); (try clear hb2); (try clear hk); (try clear hi)) | (go_at_call 19; (with_reducible refine (path_Under.calls t205 t204 false _ A59.out).mono ?_); rintro e w72 ⟨rfl, hb⟩; have n0_ := Aside0.mk (Kd.R_below (by (with_reducible repeat (first | apply Kd.R_alloc | apply Kd.R_drewN | apply Kd.R_drew)); exact HO210.out) hb); have n1_ := Aside0.mk (below_step (by repeat (first | (with_reducible first | exact HB.out | apply below_alloc | apply pw_below_drewN | apply below_drew1) | exact HB.out)) hb); clear HO210; clear HB; have HO210 := n0_; have HB := n1_; clear n0_ n1_; (try clear hb); (try clear hb2); (try clear hk); (try clear hi)))
                go_meet
                case rel => exact ⟨_, (false), (by first | rfl | (simp; done) | (simp [*]; done)), H', ⟨by first | omega | exact Nat.le_refl _⟩, ⟨by repeat (first | (with_reducible first | exact HB.out | apply below_alloc | apply pw_below_drewN | apply below_drew1) | exact HB.out)⟩⟩
            · exact absurd (Option.some.inj (A22.out.symm.trans A57.out)) (fun e => c58 e.symm)
        · replace c23 := Bool.eq_false_iff.mpr c23
          subst c23
          have H1 : ((path_Under.f t204 t205).bind fun t220 => (if t220 = true then ((path_Under.f t205 t204).bind fun t221 => (if t221 = true then (moatlaw13_PathOrder.j0 k t203 t204 (t204.toList != t205.toList)) else (moatlaw13_PathOrder.j0 k t203 t204 false))) else (moatlaw13_PathOrder.j0 k t203 t204 false))) = some r := by rw [if_neg (show ¬ (false = true) by decide)] at H; exact H
          clear H
          have H := H1
          clear H1
          replace H := Option.bind_eq_some_iff.mp H
          obtain ⟨t220, A780, H⟩ := H
          replace H : (if t220 = true then ((path_Under.f t205 t204).bind fun t221 => (if t221 = true then (moatlaw13_PathOrder.j0 k t203 t204 (t204.toList != t205.toList)) else (moatlaw13_PathOrder.j0 k t203 t204 false))) else (moatlaw13_PathOrder.j0 k t203 t204 false)) = some r := H
          have A78 := Aside0.mk A780
          clear A780
          by_cases c79 : t220 = true
          · exact absurd (Option.some.inj (A22.out.symm.trans A78.out)) (by rw [c79]; decide)
          · replace c79 := Bool.eq_false_iff.mpr c79
            subst c79
            have H1 : (moatlaw13_PathOrder.j0 k t203 t204 false) = some r := by rw [if_neg (show ¬ (false = true) by decide)] at H; exact H
            clear H
            have H := H1
            clear H1
            have H' := Aside0.mk H
            clear H
            go_wp2_with (first | ((with_reducible refine gate_callee (f := 19) rfl ?_); refine goesL_ (some 30) rfl rfl Try.func19 (by kernel_rfl) rfl #[.string t204, .string t204] rfl (by (try simp only [List.map_toArray, List.map_cons, List.map_nil]); first | done | rfl | (simp only [List.length_drop, List.length_take]; rfl)) ?_; (with_reducible refine (path_Under.calls t204 t204 t211 _ A15.out).mono ?_); rintro e w92 ⟨rfl, hb⟩; refine ⟨_, rfl, ?_⟩; have n0_ := Aside0.mk (Kd.R_below (by (with_reducible repeat (first | apply Kd.R_alloc | apply Kd.R_drewN | apply Kd.R_drew)); exact HO210.out) hb); have n1_ := Aside0.mk (below_step (by repeat (first | (with_reducible first | exact HB.out | apply below_alloc | apply pw_below_drewN | apply below_drew1) | exact HB.out)) hb); clear HO210; clear HB; have HO210 := n0_; have HB := n1_; clear n0_ n1_; (try clear hb); (try clear hb2); (try clear hk); (try clear hi)) | (go_at_call 19; (with_reducible refine (path_Under.calls t204 (⟨#[47]⟩ : ByteArray) t212 _ A18.out).mono ?_); rintro e w93 ⟨rfl, hb⟩; have n0_ := Aside0.mk (Kd.R_below (by (with_reducible repeat (first | apply Kd.R_alloc | apply Kd.R_drewN | apply Kd.R_drew)); exact HO210.out) hb); have n1_ := Aside0.mk (below_step (by repeat (first | (with_reducible first | exact HB.out | apply below_alloc | apply pw_below_drewN | apply below_drew1) | exact HB.out)) hb); clear HO210; clear HB; have HO210 := n0_; have HB := n1_; clear n0_ n1_; (try clear hb); (try clear hb2); (try clear hk); (try clear hi)) | (go_at_call 19; (with_reducible refine (path_Under.calls t204 t205 false _ A22.out).mono ?_); rintro e w94 ⟨rfl, hb⟩; have n0_ := Aside0.mk (Kd.R_below (by (with_reducible repeat (first | apply Kd.R_alloc | apply Kd.R_drewN | apply Kd.R_drew)); exact HO210.out) hb); have n1_ := Aside0.mk (below_step (by repeat (first | (with_reducible first | exact HB.out | apply below_alloc | apply pw_below_drewN | apply below_drew1) | exact HB.out)) hb); clear HO210; clear HB; have HO210 := n0_; have HB := n1_; clear n0_ n1_; (try clear hb); (try clear hb2); (try clear hk); (try clear hi)) | (go_at_call 19; (with_reducible refine (path_Under.calls t204 t205 false _ A78.out).mono ?_); rintro e w95 ⟨rfl, hb⟩; have n0_ := Aside0.mk (Kd.R_below (by (with_reducible repeat (first | apply Kd.R_alloc | apply Kd.R_drewN | apply Kd.R_drew)); exact HO210.out) hb); have n1_ := Aside0.mk (below_step (by repeat (first | (with_reducible first | exact HB.out | apply below_alloc | apply pw_below_drewN | apply below_drew1) | exact HB.out)) hb); clear HO210; clear HB; have HO210 := n0_; have HB := n1_; clear n0_ n1_; (try clear hb); (try clear hb2); (try clear hk); (try clear hi)))
            go_meet
            case rel => exact ⟨_, (false), (by first | rfl | (simp; done) | (simp [*]; done)), H', ⟨by first | omega | exact Nat.le_refl _⟩, ⟨by repeat (first | (with_reducible first | exact HB.out | apply below_alloc | apply pw_below_drewN | apply below_drew1) | exact HB.out)⟩⟩
  case rest =>
    clear HC9
    try clear c1
    try clear c2
    try clear p2
    try clear c3
    try clear c5
    try clear c6
    try clear c7
    try clear c8
    try clear c9
    try clear c10
    try clear c14
    try clear c16
    try clear c16b0
    try clear c16b1
    try clear c16b2
    try clear c19
    try clear c19b0
    try clear c19b1
    try clear c19b2
    try clear c23
    try clear c25
    try clear c27
    try clear c29
    try clear c31
    try clear c58
    try clear c60
    try clear c79
    try clear c81
    obtain ⟨kq, x71_8, rfl, HA, HJ8, HB⟩ := hcut
    cases kq with
    | zero => exact absurd HA.out (by simp [moatlaw13_PathOrder.j0])
    | succ kj8 =>
      have H := HA.out
      clear HA
      simp only [moatlaw13_PathOrder.j0] at H
      by_cases c96 : x71_8 = true
      · subst c96
        have H1 : (some false) = some r := by rw [if_pos rfl] at H; exact H
        clear H
        have H := H1
        clear H1
        obtain rfl := Option.some.inj H
        go_wp2
        go_ret
        exact ⟨by first | rfl | (simp [errW_none, errW_some] <;> rfl) | (simp [*, errW_none, errW_some] <;> rfl), by repeat (first | (with_reducible first | exact HB.out | apply below_alloc | apply pw_below_drewN | apply below_drew1) | exact HB.out)⟩
      · replace c96 := Bool.eq_false_iff.mpr c96
        subst c96
        have H1 : ((path_Split.f t204).bind fun bt222 => (if t203 = true then (if bt222.2.2 = 0 then ((path_Under.f t204 bt222.1).bind fun t225 => (if t225 = true then ((path_Under.f bt222.1 t204).bind fun t226 => (some (!t226))) else (some false))) else (some true)) else (some false))) = some r := by rw [if_neg (show ¬ (false = true) by decide)] at H; exact H
        clear H
        have H := H1
        clear H1
        replace H := Option.bind_eq_some_iff.mp H
        obtain ⟨⟨t222, t223, t224⟩, A970, H⟩ := H
        replace H : (if t203 = true then (if t224 = 0 then ((path_Under.f t204 t222).bind fun t225 => (if t225 = true then ((path_Under.f t222 t204).bind fun t226 => (some (!t226))) else (some false))) else (some true)) else (some false)) = some r := H
        have A97 := Aside0.mk A970
        clear A970
        by_cases c98 : t203 = true
        · subst c98
          have H1 : (if t224 = 0 then ((path_Under.f t204 t222).bind fun t225 => (if t225 = true then ((path_Under.f t222 t204).bind fun t226 => (some (!t226))) else (some false))) else (some true)) = some r := by rw [if_pos rfl] at H; exact H
          clear H
          have H := H1
          clear H1
          by_cases c99 : t224 = 0
          · rw [if_pos c99] at H
            have c99b0 : (t224 == 0) = true := beq_iff_eq.mpr c99
            have c99b1 : (t224 != 0) = false := bne_eq_false_iff_eq.mpr c99
            clear c99
            replace H := Option.bind_eq_some_iff.mp H
            obtain ⟨t225, A1000, H⟩ := H
            replace H : (if t225 = true then ((path_Under.f t222 t204).bind fun t226 => (some (!t226))) else (some false)) = some r := H
            have A100 := Aside0.mk A1000
            clear A1000
            by_cases c101 : t225 = true
            · subst c101
              have H1 : ((path_Under.f t222 t204).bind fun t226 => (some (!t226))) = some r := by rw [if_pos rfl] at H; exact H
              clear H
              have H := H1
              clear H1
              replace H := Option.bind_eq_some_iff.mp H
              obtain ⟨t226, A1020, H⟩ := H
              replace H : (some (!t226)) = some r := H
              have A102 := Aside0.mk A1020
              clear A1020
              obtain rfl := Option.some.inj H
              go_wp2_with (first | ((with_reducible refine gate_callee (f := 12) rfl ?_); refine goesL_ (some 74) rfl rfl Try.func12 (by kernel_rfl) rfl #[.string t204] rfl (by (try simp only [List.map_toArray, List.map_cons, List.map_nil]); first | done | rfl | (simp only [List.length_drop, List.length_take]; rfl)) ?_; (with_reducible refine (path_Split.calls t204 t222 t223 t224 _ A97.out).mono ?_); rintro e w103 ⟨rfl, hb⟩; refine ⟨_, rfl, ?_⟩; have n0_ := Aside0.mk (below_step (by repeat (first | (with_reducible first | exact HB.out | apply below_alloc | apply pw_below_drewN | apply below_drew1) | exact HB.out)) hb); clear HB; have HB := n0_; clear n0_; (try clear hb); (try clear hb2); (try clear hk); (try clear hi)) | (go_at_call 19; (with_reducible refine (path_Under.calls t204 t222 true _ A100.out).mono ?_); rintro e w104 ⟨rfl, hb⟩; have n0_ := Aside0.mk (below_step (by repeat (first | (with_reducible first | exact HB.out | apply below_alloc | apply pw_below_drewN | apply below_drew1) | exact HB.out)) hb); clear HB; have HB := n0_; clear n0_; (try clear hb); (try clear hb2); (try clear hk); (try clear hi)) | (go_at_call 19; (with_reducible refine (path_Under.calls t222 t204 t226 _ A102.out).mono ?_); rintro e w105 ⟨rfl, hb⟩; have n0_ := Aside0.mk (below_step (by repeat (first | (with_reducible first | exact HB.out | apply below_alloc | apply pw_below_drewN | apply below_drew1) | exact HB.out)) hb); clear HB; have HB := n0_; clear n0_; (try clear hb); (try clear hb2); (try clear hk); (try clear hi)))
              go_ret
              exact ⟨by first | rfl | (simp [errW_none, errW_some] <;> rfl) | (simp [*, errW_none, errW_some] <;> rfl), by repeat (first | (with_reducible first | exact HB.out | apply below_alloc | apply pw_below_drewN | apply below_drew1) | exact HB.out)⟩
            · replace c101 := Bool.eq_false_iff.mpr c101
              subst c101
              have H1 : (some false) = some r := by rw [if_neg (show ¬ (false = true) by decide)] at H; exact H
              clear H
              have H := H1
              clear H1
              obtain rfl := Option.some.inj H
              go_wp2_with (first | ((with_reducible refine gate_callee (f := 12) rfl ?_); refine goesL_ (some 74) rfl rfl Try.func12 (by kernel_rfl) rfl #[.string t204] rfl (by (try simp only [List.map_toArray, List.map_cons, List.map_nil]); first | done | rfl | (simp only [List.length_drop, List.length_take]; rfl)) ?_; (with_reducible refine (path_Split.calls t204 t222 t223 t224 _ A97.out).mono ?_); rintro e w106 ⟨rfl, hb⟩; refine ⟨_, rfl, ?_⟩; have n0_ := Aside0.mk (below_step (by repeat (first | (with_reducible first | exact HB.out | apply below_alloc | apply pw_below_drewN | apply below_drew1) | exact HB.out)) hb); clear HB; have HB := n0_; clear n0_; (try clear hb); (try clear hb2); (try clear hk); (try clear hi)) | (go_at_call 19; (with_reducible refine (path_Under.calls t204 t222 false _ A100.out).mono ?_); rintro e w107 ⟨rfl, hb⟩; have n0_ := Aside0.mk (below_step (by repeat (first | (with_reducible first | exact HB.out | apply below_alloc | apply pw_below_drewN | apply below_drew1) | exact HB.out)) hb); clear HB; have HB := n0_; clear n0_; (try clear hb); (try clear hb2); (try clear hk); (try clear hi)))
              go_ret
              exact ⟨by first | rfl | (simp [errW_none, errW_some] <;> rfl) | (simp [*, errW_none, errW_some] <;> rfl), by repeat (first | (with_reducible first | exact HB.out | apply below_alloc | apply pw_below_drewN | apply below_drew1) | exact HB.out)⟩
          · rw [if_neg c99] at H
            have c99b0 : (t224 == 0) = false := beq_eq_false_iff_ne.mpr c99
            have c99b1 : (t224 != 0) = true := bne_iff_ne.mpr c99
            obtain rfl := Option.some.inj H
            go_wp2_with (first | ((with_reducible refine gate_callee (f := 12) rfl ?_); refine goesL_ (some 74) rfl rfl Try.func12 (by kernel_rfl) rfl #[.string t204] rfl (by (try simp only [List.map_toArray, List.map_cons, List.map_nil]); first | done | rfl | (simp only [List.length_drop, List.length_take]; rfl)) ?_; (with_reducible refine (path_Split.calls t204 t222 t223 t224 _ A97.out).mono ?_); rintro e w108 ⟨rfl, hb⟩; refine ⟨_, rfl, ?_⟩; have n0_ := Aside0.mk (below_step (by repeat (first | (with_reducible first | exact HB.out | apply below_alloc | apply pw_below_drewN | apply below_drew1) | exact HB.out)) hb); clear HB; have HB := n0_; clear n0_; (try clear hb); (try clear hb2); (try clear hk); (try clear hi)))
            go_ret
            exact ⟨by first | rfl | (simp [errW_none, errW_some] <;> rfl) | (simp [*, errW_none, errW_some] <;> rfl), by repeat (first | (with_reducible first | exact HB.out | apply below_alloc | apply pw_below_drewN | apply below_drew1) | exact HB.out)⟩
        · replace c98 := Bool.eq_false_iff.mpr c98
          subst c98
          have H1 : (some false) = some r := by rw [if_neg (show ¬ (false = true) by decide)] at H; exact H
          clear H
          have H := H1
          clear H1
          obtain rfl := Option.some.inj H
          go_wp2_with (first | ((with_reducible refine gate_callee (f := 12) rfl ?_); refine goesL_ (some 74) rfl rfl Try.func12 (by kernel_rfl) rfl #[.string t204] rfl (by (try simp only [List.map_toArray, List.map_cons, List.map_nil]); first | done | rfl | (simp only [List.length_drop, List.length_take]; rfl)) ?_; (with_reducible refine (path_Split.calls t204 t222 t223 t224 _ A97.out).mono ?_); rintro e w109 ⟨rfl, hb⟩; refine ⟨_, rfl, ?_⟩; have n0_ := Aside0.mk (below_step (by repeat (first | (with_reducible first | exact HB.out | apply below_alloc | apply pw_below_drewN | apply below_drew1) | exact HB.out)) hb); clear HB; have HB := n0_; clear n0_; (try clear hb); (try clear hb2); (try clear hk); (try clear hi)))
          go_ret
          exact ⟨by first | rfl | (simp [errW_none, errW_some] <;> rfl) | (simp [*, errW_none, errW_some] <;> rfl), by repeat (first | (with_reducible first | exact HB.out | apply below_alloc | apply pw_below_drewN | apply below_drew1) | exact HB.out)⟩

/-- THE ONE PURE STATEMENT of moatlaw13_PathOrder: yours. -/
def moatlaw13_PathOrder.Pure : Prop := ∀ (a0 : ByteArray) (a1 : ByteArray) (a2 : ByteArray), a0.size ≤ 140737488351232 → a1.size ≤ 140737488351232 → a2.size ≤ 140737488351232 → ∃ k, moatlaw13_PathOrder.f k a0 a1 a2 = some true
theorem moatlaw13_PathOrder.walk (P : moatlaw13_PathOrder.Pure) (a0 : ByteArray) (a1 : ByteArray) (a2 : ByteArray) (w : World) (w0 : a0.size ≤ 140737488351232) (w1 : a1.size ≤ 140737488351232) (w2 : a2.size ≤ 140737488351232) :
    Calls Try.prog 7 #[.string a0, .string a1, .string a2] w fun e w' => e = .returned (.bool true) ∧ Below w.heap.size w w' := by
  obtain ⟨k, h⟩ := P a0 a1 a2 w0 w1 w2
  refine (moatlaw13_PathOrder.calls k a0 a1 a2 true w h).mono ?_
  rintro e w' ⟨rfl, hd⟩
  exact ⟨rfl, hd⟩

end Go.Proofs.Ytljddpnnfdaplaa.P
