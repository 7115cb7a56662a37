/- Walks and plain laws on which the claim stands, several texts joined. -/
import Derived.Test.YtinfjmdcmfpdiaaM2
import Derived.Test.YtinfjmdcmfpdiaaM3
import Derived.Test.YtinfjmdcmfpdiaaM1
import Derived.Test.YtinfjmdcmfpdiaaM0
import Derived.Maps.OwnOps
import Derived.Maps.OwnSet
import Derived.Maps.Views
import Derived.Lib.Hide
import Derived.Test.YtinfjmdcmfpdiaaWGuard
import Derived.LoopTactic
import Derived.ScopeJumps
import Derived.WalkMore
import Derived.Laws.CopyOwn

/- Contracts of functions that the statements reach: each call's answer as a plain Lean function. Printed by a program of this session (over the kit's print) out of the translation; Lean checks it. -/
namespace Go.Proofs.Ytinfjmdcmfpdiaa.D
open Go.Proofs.Ytinfjmdcmfpdiaa.P Go.RowKit Go.Proofs.YtinfjmdcmfpdiaaW.PrintWords Go.Proofs.YtinfjmdcmfpdiaaW.PrintLast Go.Proofs.YtinfjmdcmfpdiaaW.PrintMore
set_option linter.unusedVariables false
set_option linter.unusedSimpArgs false

/-! ### moatref12_Add: function 19 -/
mutual
def moatref12_Add.j1 : Nat → List Int → List (S67) → Int → ByteArray → Int → Option (List Int × Int)
  | 0, _, _, _, _, _ => none
  | k + 1, x0, x6, x12, x167000, x167001 => if x12 < (x6.length : Int) then (if 0 ≤ x12 then ((moatref12_Bytes.f k (x6.set (x12 : Int).toNat (⟨(⟨x167000, x167001⟩ : S23), true⟩ : S67))).bind fun t179 => (some (t179, 0))) else (none)) else (if (wrap64 ((x0.length : Int) + 16)) > 3840 then (some (([] : List Int), 5)) else (if x6.length < 4398046511104 then ((moatref12_Bytes.f k (x6 ++ [(⟨(⟨x167000, x167001⟩ : S23), true⟩ : S67)])).bind fun t185 => (some (t185, 0))) else (none)))
def moatref12_Add.l0 : Nat → List Int → List (S67) → Int → ByteArray → Int → Option (List Int × Int)
  | 0, _, _, _, _, _ => none
  | k + 1, x0, x6, x12, x167000, x167001 => if x12 < (x6.length : Int) then (if 0 ≤ x12 then (if (rd_T67 x6 x12).f1 = true then (moatref12_Add.l0 k x0 x6 (wrap64 (x12 + 1)) x167000 x167001) else (moatref12_Add.j1 k x0 x6 x12 x167000 x167001)) else (none)) else (moatref12_Add.j1 k x0 x6 x12 x167000 x167001)
end
def moatref12_Add.f (k : Nat) (l0 : List Int) (a1_0 : ByteArray) (a1_1 : Int) : Option (List Int × Int) := (moatref12_Slots.f k l0).bind fun bt167 => (if bt167.2 = true then ((moatref12_Lay.f a1_0 a1_1).bind fun bt171 => (if bt171.2 = 0 then ((moatref12_Find.f k l0 a1_0).bind fun bt175 => (if bt175.2 = true then (some (([] : List Int), 3)) else (moatref12_Add.l0 k l0 bt167.1 0 a1_0 a1_1))) else (some (([] : List Int), bt171.2)))) else (some (([] : List Int), 121)))
theorem moatref12_Add.mono_l : ∀ k, (∀ y0 y1 y2 y3 y4, LeO (moatref12_Add.j1 k y0 y1 y2 y3 y4) (moatref12_Add.j1 (k + 1) y0 y1 y2 y3 y4)) ∧ (∀ y0 y1 y2 y3 y4, LeO (moatref12_Add.l0 k y0 y1 y2 y3 y4) (moatref12_Add.l0 (k + 1) y0 y1 y2 y3 y4))
  | 0 => ⟨fun _ _ _ _ _ r h => by simp [moatref12_Add.j1] at h, fun _ _ _ _ _ r h => by simp [moatref12_Add.l0] at h⟩
  | k + 1 => by
    obtain ⟨ih0, ih1⟩ := moatref12_Add.mono_l k
    refine ⟨?_, ?_⟩
    · intro y0 y1 y2 y3 y4
      unfold moatref12_Add.j1
      repeat' first
      | (with_reducible exact ih0 _ _ _ _ _)
      | (with_reducible exact ih1 _ _ _ _ _)
      | (with_reducible exact moatref12_Bytes.mono _ _)
      | (with_reducible exact moatref12_Find.mono _ _ _)
      | (with_reducible exact moatref12_Slots.mono _ _)
      | (with_reducible exact LeO.refl _)
      | (with_reducible exact LeO.none _)
      | (with_reducible refine LeO.ite ?_ ?_)
      | (with_reducible refine LeO.bind ?_ (fun _ => ?_))
      | exact ih0 _ _ _ _ _
      | exact ih1 _ _ _ _ _
      | exact moatref12_Bytes.mono _ _
      | exact moatref12_Find.mono _ _ _
      | exact moatref12_Slots.mono _ _
      | exact LeO.none _
      | refine LeO.ite ?_ ?_
      | refine LeO.bind ?_ (fun _ => ?_)
    · intro y0 y1 y2 y3 y4
      unfold moatref12_Add.l0
      repeat' first
      | (with_reducible exact ih0 _ _ _ _ _)
      | (with_reducible exact ih1 _ _ _ _ _)
      | (with_reducible exact moatref12_Bytes.mono _ _)
      | (with_reducible exact moatref12_Find.mono _ _ _)
      | (with_reducible exact moatref12_Slots.mono _ _)
      | (with_reducible exact LeO.refl _)
      | (with_reducible exact LeO.none _)
      | (with_reducible refine LeO.ite ?_ ?_)
      | (with_reducible refine LeO.bind ?_ (fun _ => ?_))
      | exact ih0 _ _ _ _ _
      | exact ih1 _ _ _ _ _
      | exact moatref12_Bytes.mono _ _
      | exact moatref12_Find.mono _ _ _
      | exact moatref12_Slots.mono _ _
      | exact LeO.none _
      | refine LeO.ite ?_ ?_
      | refine LeO.bind ?_ (fun _ => ?_)
theorem moatref12_Add.mono : ∀ a0 a1 a2 k, LeO (moatref12_Add.f k a0 a1 a2) (moatref12_Add.f (k + 1) a0 a1 a2) := by
  intro a0 a1 a2 k
  obtain ⟨ih0, ih1⟩ := moatref12_Add.mono_l k
  unfold moatref12_Add.f
  repeat' first
      | (with_reducible exact ih0 _ _ _ _ _)
      | (with_reducible exact ih1 _ _ _ _ _)
      | (with_reducible exact moatref12_Bytes.mono _ _)
      | (with_reducible exact moatref12_Find.mono _ _ _)
      | (with_reducible exact moatref12_Slots.mono _ _)
      | (with_reducible exact LeO.refl _)
      | (with_reducible exact LeO.none _)
      | (with_reducible refine LeO.ite ?_ ?_)
      | (with_reducible refine LeO.bind ?_ (fun _ => ?_))
      | exact ih0 _ _ _ _ _
      | exact ih1 _ _ _ _ _
      | exact moatref12_Bytes.mono _ _
      | exact moatref12_Find.mono _ _ _
      | exact moatref12_Slots.mono _ _
      | exact LeO.none _
      | refine LeO.ite ?_ ?_
      | refine LeO.bind ?_ (fun _ => ?_)
set_option maxHeartbeats 8000000 in
set_option maxRecDepth 100000 in
theorem moatref12_Add.calls (k : Nat) (A0 : Option Addr) (c0 : Nat) (l0 : List Int) (a1_0 : ByteArray) (a1_1 : Int) (r1 : List Int) (r2 : Int) (w : World) (hr0 : Kd.C (Kd.int .u8) w A0 l0.length l0) (hc0 : l0.length ≤ c0) (h : moatref12_Add.f k l0 a1_0 a1_1 = some (r1, r2)) :
    Calls Try.prog 19 #[.slice A0 l0.length c0, .agg #[.string a1_0, .int .i64 a1_1]] w fun e w' => ∃ v0_ : Value, e = .returned (.tuple #[v0_, .int .i64 r2]) ∧ Kd.R (Kd.int .u8) 5 w' w.heap.size (fun _ => True) v0_ r1 ∧ Below w.heap.size w w' := by
  have hu23 := Try.underlying23
  have hu67 := Try.underlying67
  have HR0 := Aside0.mk hr0
  have HC0 := Aside0.mk hc0
  clear hr0 hc0
  have HB := Aside0.mk (Below.refl w.heap.size w)
  have H : ((moatref12_Slots.f k l0).bind fun bt167 => (if bt167.2 = true then ((moatref12_Lay.f a1_0 a1_1).bind fun bt171 => (if bt171.2 = 0 then ((moatref12_Find.f k l0 a1_0).bind fun bt175 => (if bt175.2 = true then (some (([] : List Int), 3)) else (moatref12_Add.l0 k l0 bt167.1 0 a1_0 a1_1))) else (some (([] : List Int), bt171.2)))) else (some (([] : List Int), 121)))) = some (r1, r2) := h
  clear h
  replace H := Option.bind_eq_some_iff.mp H
  obtain ⟨⟨t167, t168⟩, A30, H⟩ := H
  replace H : (if t168 = true then ((moatref12_Lay.f a1_0 a1_1).bind fun bt171 => (if bt171.2 = 0 then ((moatref12_Find.f k l0 a1_0).bind fun bt175 => (if bt175.2 = true then (some (([] : List Int), 3)) else (moatref12_Add.l0 k l0 t167 0 a1_0 a1_1))) else (some (([] : List Int), bt171.2)))) else (some (([] : List Int), 121))) = some (r1, r2) := H
  have A3 := Aside0.mk A30
  clear A30
  by_cases c4 : t168 = true
  · subst c4
    have H1 : ((moatref12_Lay.f a1_0 a1_1).bind fun bt171 => (if bt171.2 = 0 then ((moatref12_Find.f k l0 a1_0).bind fun bt175 => (if bt175.2 = true then (some (([] : List Int), 3)) else (moatref12_Add.l0 k l0 t167 0 a1_0 a1_1))) else (some (([] : List Int), bt171.2)))) = some (r1, r2) := by rw [if_pos rfl] at H; exact H
    clear H
    have H := H1
    clear H1
    replace H := Option.bind_eq_some_iff.mp H
    obtain ⟨⟨t171, t174⟩, A50, H⟩ := H
    replace H : (if t174 = 0 then ((moatref12_Find.f k l0 a1_0).bind fun bt175 => (if bt175.2 = true then (some (([] : List Int), 3)) else (moatref12_Add.l0 k l0 t167 0 a1_0 a1_1))) else (some (([] : List Int), t174))) = some (r1, r2) := H
    have A5 := Aside0.mk A50
    clear A50
    by_cases c6 : t174 = 0
    · rw [if_pos c6] at H
      have c6b0 : (t174 == 0) = true := beq_iff_eq.mpr c6
      have c6b1 : (t174 != 0) = false := bne_eq_false_iff_eq.mpr c6
      clear c6
      replace H := Option.bind_eq_some_iff.mp H
      obtain ⟨⟨t175, t176⟩, A70, H⟩ := H
      replace H : (if t176 = true then (some (([] : List Int), 3)) else (moatref12_Add.l0 k l0 t167 0 a1_0 a1_1)) = some (r1, r2) := H
      have A7 := Aside0.mk A70
      clear A70
      by_cases c8 : t176 = true
      · subst c8
        have H1 : (some (([] : List Int), 3)) = some (r1, r2) := by rw [if_pos rfl] at H; exact H
        clear H
        have H := H1
        clear H1
        simp only [Option.some.injEq, Prod.mk.injEq] at H
        obtain ⟨rfl, rfl⟩ := H
        go_enter Try.func19, Try.ntmps19
        go_wp2_with (first | ((with_reducible refine gate_dst (N := 3) rfl ?_); refine box_event ?hg (N := 3) ?hd (cs := #[.string a1_0, .int .i64 a1_1]) (t := 23) ?hr ?_; (case hd => rfl); (case hg => rfl); (case hr => first | (go_simp; done) | (go_simp; rfl)); intro gb166 hg w9 hbox hb; have n0_ := Aside0.mk (below_step (by repeat (first | (with_reducible first | exact HB.out | apply below_alloc | apply pw_below_drewN | apply below_drew1) | exact HB.out)) hb); have n1_ := Aside0.mk (hbox); have n2_ := Aside0.mk ((by rw [hg]; exact (below_size (by repeat (first | (with_reducible first | exact HB.out | apply below_alloc | apply pw_below_drewN | apply below_drew1) | exact HB.out))) : w.heap.size ≤ gb166)); have n3_ := Aside0.mk ((by rw [hg]; exact (below_size (by repeat (first | (with_reducible first | exact HB.out | apply below_alloc | apply pw_below_drewN | apply below_drew1) | exact HB.out))) : w.heap.size ≤ gb166)); clear HB; have HB := n0_; have BK166 := n1_; have GW166 := n2_; have GE166 := n3_; clear n0_ n1_ n2_ n3_; clear hb hbox hg) | ((with_reducible refine gate_callee (f := 37) rfl ?_); refine goesL_ (some 15) rfl rfl Try.func37 (by kernel_rfl) rfl #[.slice A0 l0.length c0] rfl (by (try simp only [List.map_toArray, List.map_cons, List.map_nil]); first | done | rfl | (simp only [List.length_drop, List.length_take]; rfl)) ?_; (with_reducible refine (moatref12_Slots.calls k _ _ l0 t167 true _ ?side1 ?side2 A3.out).mono ?_); (case side1 => repeat (first | exact (Kd.C_below HR0.out HB.out) | (with_reducible refine Kd.C_alloc ?_ _) | (with_reducible refine Kd.C_drewN ?_ _) | (with_reducible refine Kd.C_drew ?_))); (case side2 => exact HC0.out); rintro e w10 ⟨v169, rfl, ho0, hb⟩; refine ⟨_, rfl, ?_⟩; have n0_ := Aside0.mk (Kd.R_lower ho0 (below_size (by repeat (first | (with_reducible first | exact HB.out | apply below_alloc | apply pw_below_drewN | apply below_drew1 | refine below_set ?_ GE166.out) | exact HB.out)))); have n1_ := Aside0.mk (blk_below (g := gb166) (o := .cells #[.string a1_0, .int .i64 a1_1] 23 (0, 0)) (by (with_reducible repeat (first | refine blk_drewN ?_ _ | refine blk_drew ?_ | refine blk_alloc ?_ _)); exact BK166.out) hb); have n2_ := Aside0.mk (below_step (by repeat (first | (with_reducible first | exact HB.out | apply below_alloc | apply pw_below_drewN | apply below_drew1 | refine below_set ?_ GE166.out) | exact HB.out)) hb); clear BK166; clear HB; have HO170 := n0_; have BK166 := n1_; have HB := n2_; clear n0_ n1_ n2_; (try clear hb); (try clear hb2); (try clear hk); (try clear hi); (try clear ho0); have hcz11_0 : w10.cell? ⟨gb166, 0, none⟩ = some (.string a1_0) := (blk_cell BK166.out 0).trans rfl; have hcz11_1 : w10.cell? ⟨gb166, 1, none⟩ = some (.int .i64 a1_1) := (blk_cell BK166.out 1).trans rfl; have hfz11_0 := blk_frozen BK166.out 0; have hfz11_1 := blk_frozen BK166.out 1) | ((with_reducible refine gate_callee (f := 12) rfl ?_); refine goesL_ (some 22) rfl rfl Try.func12 (by kernel_rfl) rfl #[.agg #[.string a1_0, .int .i64 a1_1]] rfl (by (try simp only [List.map_toArray, List.map_cons, List.map_nil]); first | done | rfl | (simp only [List.length_drop, List.length_take]; rfl)) ?_; (with_reducible refine (moatref12_Lay.calls a1_0 a1_1 t171 t174 _ A5.out).mono ?_); rintro e w12 ⟨v172, rfl, ho0, hb⟩; refine ⟨_, rfl, ?_⟩; have n0_ := Aside0.mk (Kd.R_below (by (with_reducible repeat (first | apply Kd.R_alloc | apply Kd.R_drewN | apply Kd.R_drew)); exact HO170.out) hb); have n1_ := Aside0.mk (Kd.R_lower ho0 (below_size (by repeat (first | (with_reducible first | exact HB.out | apply below_alloc | apply pw_below_drewN | apply below_drew1 | refine below_set ?_ GE166.out) | exact HB.out)))); have n2_ := Aside0.mk (blk_below (g := gb166) (o := .cells #[.string a1_0, .int .i64 a1_1] 23 (0, 0)) (by (with_reducible repeat (first | refine blk_drewN ?_ _ | refine blk_drew ?_ | refine blk_alloc ?_ _)); exact BK166.out) hb); have n3_ := Aside0.mk (below_step (by repeat (first | (with_reducible first | exact HB.out | apply below_alloc | apply pw_below_drewN | apply below_drew1 | refine below_set ?_ GE166.out) | exact HB.out)) hb); clear HO170; clear BK166; clear HB; have HO170 := n0_; have HO173 := n1_; have BK166 := n2_; have HB := n3_; clear n0_ n1_ n2_ n3_; (try clear hb); (try clear hb2); (try clear hk); (try clear hi); (try clear ho0); have hcz13_0 : w12.cell? ⟨gb166, 0, none⟩ = some (.string a1_0) := (blk_cell BK166.out 0).trans rfl; have hcz13_1 : w12.cell? ⟨gb166, 1, none⟩ = some (.int .i64 a1_1) := (blk_cell BK166.out 1).trans rfl; have hfz13_0 := blk_frozen BK166.out 0; have hfz13_1 := blk_frozen BK166.out 1) | ((with_reducible refine gate_callee (f := 26) rfl ?_); refine goesL_ (some 32) rfl rfl Try.func26 (by kernel_rfl) rfl #[.slice A0 l0.length c0, .string a1_0] rfl (by (try simp only [List.map_toArray, List.map_cons, List.map_nil]); first | done | rfl | (simp only [List.length_drop, List.length_take]; rfl)) ?_; (with_reducible refine (moatref12_Find.calls k _ _ l0 a1_0 t175 true _ ?side1 ?side2 A7.out).mono ?_); (case side1 => repeat (first | exact (Kd.C_below HR0.out HB.out) | (with_reducible refine Kd.C_alloc ?_ _) | (with_reducible refine Kd.C_drewN ?_ _) | (with_reducible refine Kd.C_drew ?_))); (case side2 => exact HC0.out); rintro e w14 ⟨rfl, hb⟩; refine ⟨_, rfl, ?_⟩; have n0_ := Aside0.mk (Kd.R_below (by (with_reducible repeat (first | apply Kd.R_alloc | apply Kd.R_drewN | apply Kd.R_drew)); exact HO170.out) hb); have n1_ := Aside0.mk (Kd.R_below (by (with_reducible repeat (first | apply Kd.R_alloc | apply Kd.R_drewN | apply Kd.R_drew)); exact HO173.out) hb); have n2_ := Aside0.mk (blk_below (g := gb166) (o := .cells #[.string a1_0, .int .i64 a1_1] 23 (0, 0)) (by (with_reducible repeat (first | refine blk_drewN ?_ _ | refine blk_drew ?_ | refine blk_alloc ?_ _)); exact BK166.out) hb); have n3_ := Aside0.mk (below_step (by repeat (first | (with_reducible first | exact HB.out | apply below_alloc | apply pw_below_drewN | apply below_drew1 | refine below_set ?_ GE166.out) | exact HB.out)) hb); clear HO170; clear HO173; clear BK166; clear HB; have HO170 := n0_; have HO173 := n1_; have BK166 := n2_; have HB := n3_; clear n0_ n1_ n2_ n3_; (try clear hb); (try clear hb2); (try clear hk); (try clear hi)))
        go_ret2
        exact ⟨_, by first | rfl | (simp [errW_none, errW_some] <;> rfl) | (simp [*, errW_none, errW_some] <;> rfl), by first | exact Kd.R_nil _ _ _ _ _ | exact Kd.N_nil _ _ _ _ _ | exact Kd.V_nil _ _ _ _ _ | exact Kd.Q_nil _ _ _ _ _ | exact Kd.S_nil _ _ _ _ _, by repeat (first | (with_reducible first | exact HB.out | apply below_alloc | apply pw_below_drewN | apply below_drew1 | refine below_set ?_ GE166.out) | exact HB.out)⟩
      · replace c8 := Bool.eq_false_iff.mpr c8
        subst c8
        have H1 : (moatref12_Add.l0 k l0 t167 0 a1_0 a1_1) = some (r1, r2) := by rw [if_neg (show ¬ (false = true) by decide)] at H; exact H
        clear H
        have H := H1
        clear H1
        have HC15 := Aside0.mk H
        clear H
        go_enter Try.func19, Try.ntmps19
        go_upto_block 0 with (first | ((with_reducible refine gate_dst (N := 3) rfl ?_); refine box_event ?hg (N := 3) ?hd (cs := #[.string a1_0, .int .i64 a1_1]) (t := 23) ?hr ?_; (case hd => rfl); (case hg => rfl); (case hr => first | (go_simp; done) | (go_simp; rfl)); intro gb166 hg w16 hbox hb; have n0_ := Aside0.mk (below_step (by repeat (first | (with_reducible first | exact HB.out | apply below_alloc | apply pw_below_drewN | apply below_drew1) | exact HB.out)) hb); have n1_ := Aside0.mk (hbox); have n2_ := Aside0.mk ((by rw [hg]; exact (below_size (by repeat (first | (with_reducible first | exact HB.out | apply below_alloc | apply pw_below_drewN | apply below_drew1) | exact HB.out))) : w.heap.size ≤ gb166)); have n3_ := Aside0.mk ((by rw [hg]; exact (below_size (by repeat (first | (with_reducible first | exact HB.out | apply below_alloc | apply pw_below_drewN | apply below_drew1) | exact HB.out))) : w.heap.size ≤ gb166)); clear HB; have HB := n0_; have BK166 := n1_; have GW166 := n2_; have GE166 := n3_; clear n0_ n1_ n2_ n3_; clear hb hbox hg) | ((with_reducible refine gate_callee (f := 37) rfl ?_); refine goesL_ (some 15) rfl rfl Try.func37 (by kernel_rfl) rfl #[.slice A0 l0.length c0] rfl (by (try simp only [List.map_toArray, List.map_cons, List.map_nil]); first | done | rfl | (simp only [List.length_drop, List.length_take]; rfl)) ?_; (with_reducible refine (moatref12_Slots.calls k _ _ l0 t167 true _ ?side1 ?side2 A3.out).mono ?_); (case side1 => repeat (first | exact (Kd.C_below HR0.out HB.out) | (with_reducible refine Kd.C_alloc ?_ _) | (with_reducible refine Kd.C_drewN ?_ _) | (with_reducible refine Kd.C_drew ?_))); (case side2 => exact HC0.out); rintro e w17 ⟨v169, rfl, ho0, hb⟩; refine ⟨_, rfl, ?_⟩; have n0_ := Aside0.mk (Kd.R_lower ho0 (below_size (by repeat (first | (with_reducible first | exact HB.out | apply below_alloc | apply pw_below_drewN | apply below_drew1 | refine below_set ?_ GE166.out) | exact HB.out)))); have n1_ := Aside0.mk (blk_below (g := gb166) (o := .cells #[.string a1_0, .int .i64 a1_1] 23 (0, 0)) (by (with_reducible repeat (first | refine blk_drewN ?_ _ | refine blk_drew ?_ | refine blk_alloc ?_ _)); exact BK166.out) hb); have n2_ := Aside0.mk (below_step (by repeat (first | (with_reducible first | exact HB.out | apply below_alloc | apply pw_below_drewN | apply below_drew1 | refine below_set ?_ GE166.out) | exact HB.out)) hb); clear BK166; clear HB; have HO170 := n0_; have BK166 := n1_; have HB := n2_; clear n0_ n1_ n2_; (try clear hb); (try clear hb2); (try clear hk); (try clear hi); (try clear ho0); have hcz18_0 : w17.cell? ⟨gb166, 0, none⟩ = some (.string a1_0) := (blk_cell BK166.out 0).trans rfl; have hcz18_1 : w17.cell? ⟨gb166, 1, none⟩ = some (.int .i64 a1_1) := (blk_cell BK166.out 1).trans rfl; have hfz18_0 := blk_frozen BK166.out 0; have hfz18_1 := blk_frozen BK166.out 1) | ((with_reducible refine gate_callee (f := 12) rfl ?_); refine goesL_ (some 22) rfl rfl Try.func12 (by kernel_rfl) rfl #[.agg #[.string a1_0, .int .i64 a1_1]] rfl (by (try simp only [List.map_toArray, List.map_cons, List.map_nil]); first | done | rfl | (simp only [List.length_drop, List.length_take]; rfl)) ?_; (with_reducible refine (moatref12_Lay.calls a1_0 a1_1 t171 t174 _ A5.out).mono ?_); rintro e w19 ⟨v172, rfl, ho0, hb⟩; refine ⟨_, rfl, ?_⟩; have n0_ := Aside0.mk (Kd.R_below (by (with_reducible repeat (first | apply Kd.R_alloc | apply Kd.R_drewN | apply Kd.R_drew)); exact HO170.out) hb); have n1_ := Aside0.mk (Kd.R_lower ho0 (below_size (by repeat (first | (with_reducible first | exact HB.out | apply below_alloc | apply pw_below_drewN | apply below_drew1 | refine below_set ?_ GE166.out) | exact HB.out)))); have n2_ := Aside0.mk (blk_below (g := gb166) (o := .cells #[.string a1_0, .int .i64 a1_1] 23 (0, 0)) (by (with_reducible repeat (first | refine blk_drewN ?_ _ | refine blk_drew ?_ | refine blk_alloc ?_ _)); exact BK166.out) hb); have n3_ := Aside0.mk (below_step (by repeat (first | (with_reducible first | exact HB.out | apply below_alloc | apply pw_below_drewN | apply below_drew1 | refine below_set ?_ GE166.out) | exact HB.out)) hb); clear HO170; clear BK166; clear HB; have HO170 := n0_; have HO173 := n1_; have BK166 := n2_; have HB := n3_; clear n0_ n1_ n2_ n3_; (try clear hb); (try clear hb2); (try clear hk); (try clear hi); (try clear ho0); have hcz20_0 : w19.cell? ⟨gb166, 0, none⟩ = some (.string a1_0) := (blk_cell BK166.out 0).trans rfl; have hcz20_1 : w19.cell? ⟨gb166, 1, none⟩ = some (.int .i64 a1_1) := (blk_cell BK166.out 1).trans rfl; have hfz20_0 := blk_frozen BK166.out 0; have hfz20_1 := blk_frozen BK166.out 1) | ((with_reducible refine gate_callee (f := 26) rfl ?_); refine goesL_ (some 32) rfl rfl Try.func26 (by kernel_rfl) rfl #[.slice A0 l0.length c0, .string a1_0] rfl (by (try simp only [List.map_toArray, List.map_cons, List.map_nil]); first | done | rfl | (simp only [List.length_drop, List.length_take]; rfl)) ?_; (with_reducible refine (moatref12_Find.calls k _ _ l0 a1_0 t175 false _ ?side1 ?side2 A7.out).mono ?_); (case side1 => repeat (first | exact (Kd.C_below HR0.out HB.out) | (with_reducible refine Kd.C_alloc ?_ _) | (with_reducible refine Kd.C_drewN ?_ _) | (with_reducible refine Kd.C_drew ?_))); (case side2 => exact HC0.out); rintro e w21 ⟨rfl, hb⟩; refine ⟨_, rfl, ?_⟩; have n0_ := Aside0.mk (Kd.R_below (by (with_reducible repeat (first | apply Kd.R_alloc | apply Kd.R_drewN | apply Kd.R_drew)); exact HO170.out) hb); have n1_ := Aside0.mk (Kd.R_below (by (with_reducible repeat (first | apply Kd.R_alloc | apply Kd.R_drewN | apply Kd.R_drew)); exact HO173.out) hb); have n2_ := Aside0.mk (blk_below (g := gb166) (o := .cells #[.string a1_0, .int .i64 a1_1] 23 (0, 0)) (by (with_reducible repeat (first | refine blk_drewN ?_ _ | refine blk_drew ?_ | refine blk_alloc ?_ _)); exact BK166.out) hb); have n3_ := Aside0.mk (below_step (by repeat (first | (with_reducible first | exact HB.out | apply below_alloc | apply pw_below_drewN | apply below_drew1 | refine below_set ?_ GE166.out) | exact HB.out)) hb); clear HO170; clear HO173; clear BK166; clear HB; have HO170 := n0_; have HO173 := n1_; have BK166 := n2_; have HB := n3_; clear n0_ n1_ n2_ n3_; (try clear hb); (try clear hb2); (try clear hk); (try clear hi)))
        (try simp only [Act.put, List.setIfInBounds_toArray, List.set_cons_zero, List.set_cons_succ])
        go_cut [12] (fun v12 wc => ∃ (kq : Nat) (x12_14 : Int), v12 = .int .i64 x12_14 ∧ Aside0 (moatref12_Add.j1 kq l0 t167 x12_14 a1_0 a1_1 = some (r1, r2)) ∧ Aside0 (kq ≤ k) ∧ Aside0 (Kd.R k67 67 wc w.heap.size (fun _ => True) v169 t167) ∧ Aside0 (wc.heap[gb166]? = some (.cells #[.string a1_0, .int .i64 a1_1] 23 (0, 0))) ∧ Aside0 (Below w.heap.size w wc))
        case first =>
          have H := HC15.out
          clear HC15
          have H' := Aside0.mk H
          clear H
          go_wp2
          go_loopg [12] k (fun kq v12 w' => ∃ (x12_1 : Int), v12 = .int .i64 x12_1 ∧ Aside0 (moatref12_Add.l0 kq l0 t167 x12_1 a1_0 a1_1 = some (r1, r2)) ∧ Aside0 (kq ≤ k) ∧ Aside0 (Kd.R k67 67 w' w.heap.size (fun _ => True) v169 t167) ∧ Aside0 (w'.heap[gb166]? = some (.cells #[.string a1_0, .int .i64 a1_1] 23 (0, 0))) ∧ Aside0 (Below w.heap.size w w'))
          case atStart => exact ⟨(0), (by first | rfl | (simp; done) | (simp [*]; done)), H', ⟨Nat.le_refl _⟩, ⟨by (with_reducible repeat (first | apply Kd.R_alloc | apply Kd.R_drewN | apply Kd.R_drew)); exact HO170.out⟩, ⟨by (with_reducible repeat (first | refine blk_drewN ?_ _ | refine blk_drew ?_ | refine blk_alloc ?_ _)); exact BK166.out⟩, ⟨by repeat (first | (with_reducible first | exact HB.out | apply below_alloc | apply pw_below_drewN | apply below_drew1 | refine below_set ?_ GE166.out) | exact HB.out)⟩⟩
          case round =>
            clear H'
            try clear c1
            try clear c2
            try clear p2
            try clear c3
            try clear c4
            try clear c6
            try clear c6b0
            try clear c6b1
            try clear c8
            try clear c12
            try clear c19
            try clear hcz11_0
            try clear hcz11_1
            try clear hcz13_0
            try clear hcz13_1
            try clear hcz18_0
            try clear hcz18_1
            try clear hcz20_0
            try clear hcz20_1
            try clear hfz11_0
            try clear hfz11_1
            try clear hfz13_0
            try clear hfz13_1
            try clear hfz18_0
            try clear hfz18_1
            try clear hfz20_0
            try clear hfz20_1
            obtain ⟨x12_1, rfl, HA, HK1, HO_6, BK166, HB⟩ := hrel
            cases gk with
            | zero => exact absurd HA.out (by simp [moatref12_Add.l0])
            | succ k1 =>
              have H := HA.out
              clear HA
              simp only [moatref12_Add.l0] at H
              by_cases c22 : x12_1 < (t167.length : Int)
              · rw [if_pos c22] at H
                have c22b0 : decide (x12_1 < (t167.length : Int)) = true := decide_eq_true c22
                clear c22
                (first | rw [c22b0] | (simp only [i64_w, i32_w]; rw [c22b0]) | skip)
                by_cases c23 : 0 ≤ x12_1
                · rw [if_pos c23] at H
                  have c23b0 : decide (0 ≤ x12_1) = true := decide_eq_true c23
                  clear c23
                  obtain ⟨bq24, hbq24⟩ : ∃ b_ : Bool, b_ = ((rd_T67 t167 x12_1).f1) := ⟨_, rfl⟩
                  replace H : (if bq24 = true then (moatref12_Add.l0 k1 l0 t167 (wrap64 (x12_1 + 1)) a1_0 a1_1) else (moatref12_Add.j1 k1 l0 t167 x12_1 a1_0 a1_1)) = some (r1, r2) := by rw [← hbq24] at H; exact H
                  have Nbq24 := Aside0.mk hbq24
                  clear hbq24
                  by_cases c25 : bq24 = true
                  · subst c25
                    have H1 : (moatref12_Add.l0 k1 l0 t167 (wrap64 (x12_1 + 1)) a1_0 a1_1) = some (r1, r2) := by rw [if_pos rfl] at H; exact H
                    clear H
                    have H := H1
                    clear H1
                    have H' := Aside0.mk H
                    clear H
                    obtain ⟨Ao26, co26, eo26⟩ := Kd.R_slice HO_6.out
                    subst eo26
                    have p177 : 0 ≤ (x12_1 : Int) := of_decide_eq_true (by first | (with_reducible assumption) | assumption)
                    have q177 : x12_1 < (t167.length : Int) := of_decide_eq_true (by first | (with_reducible assumption) | assumption)
                    obtain ⟨ad177, e177, hx177_0, hx177_1, hx177_2⟩ := at_T67 (Kd.R_reads' HO_6.out).2.2 x12_1 p177 q177
                    (try rw [← Nbq24.out] at hx177_2)
                    cases e177
                    replace p177 := eq_true p177
                    replace q177 := eq_true q177
                    go_wp2
                    go_roundg k1
                    case measure => have := HK1.out; omega
                    case rel => exact ⟨(wrap64 (x12_1 + 1)), (by first | rfl | (simp; done) | (simp [*]; done)), H', ⟨by have := HK1.out; omega⟩, ⟨by (with_reducible repeat (first | apply Kd.R_alloc | apply Kd.R_drewN | apply Kd.R_drew)); exact HO_6.out⟩, ⟨by (with_reducible repeat (first | refine blk_drewN ?_ _ | refine blk_drew ?_ | refine blk_alloc ?_ _)); exact BK166.out⟩, ⟨by repeat (first | (with_reducible first | exact HB.out | apply below_alloc | apply pw_below_drewN | apply below_drew1 | refine below_set ?_ GE166.out) | exact HB.out)⟩⟩
                  · replace c25 := Bool.eq_false_iff.mpr c25
                    subst c25
                    have H1 : (moatref12_Add.j1 k1 l0 t167 x12_1 a1_0 a1_1) = some (r1, r2) := by rw [if_neg (show ¬ (false = true) by decide)] at H; exact H
                    clear H
                    have H := H1
                    clear H1
                    have H' := Aside0.mk H
                    clear H
                    obtain ⟨Ao27, co27, eo27⟩ := Kd.R_slice HO_6.out
                    subst eo27
                    have p177 : 0 ≤ (x12_1 : Int) := of_decide_eq_true (by first | (with_reducible assumption) | assumption)
                    have q177 : x12_1 < (t167.length : Int) := of_decide_eq_true (by first | (with_reducible assumption) | assumption)
                    obtain ⟨ad177, e177, hx177_0, hx177_1, hx177_2⟩ := at_T67 (Kd.R_reads' HO_6.out).2.2 x12_1 p177 q177
                    (try rw [← Nbq24.out] at hx177_2)
                    cases e177
                    replace p177 := eq_true p177
                    replace q177 := eq_true q177
                    go_wp2
                    go_meet
                    case rel => exact ⟨_, (x12_1), (by first | rfl | (simp; done) | (simp [*]; done)), H', ⟨by have := HK1.out; first | omega | exact Nat.le_refl _⟩, ⟨by (with_reducible repeat (first | apply Kd.R_alloc | apply Kd.R_drewN | apply Kd.R_drew)); exact HO_6.out⟩, ⟨by (with_reducible repeat (first | refine blk_drewN ?_ _ | refine blk_drew ?_ | refine blk_alloc ?_ _)); exact BK166.out⟩, ⟨by repeat (first | (with_reducible first | exact HB.out | apply below_alloc | apply pw_below_drewN | apply below_drew1 | refine below_set ?_ GE166.out) | exact HB.out)⟩⟩
                · rw [if_neg c23] at H
                  exact absurd H (by simp)
              · rw [if_neg c22] at H
                have c22b0 : decide (x12_1 < (t167.length : Int)) = false := decide_eq_false c22
                clear c22
                (first | rw [c22b0] | (simp only [i64_w, i32_w]; rw [c22b0]) | skip)
                have H' := Aside0.mk H
                clear H
                obtain ⟨Ao28, co28, eo28⟩ := Kd.R_slice HO_6.out
                subst eo28
                go_wp2
                go_meet
                case rel => exact ⟨_, (x12_1), (by first | rfl | (simp; done) | (simp [*]; done)), H', ⟨by have := HK1.out; first | omega | exact Nat.le_refl _⟩, ⟨by (with_reducible repeat (first | apply Kd.R_alloc | apply Kd.R_drewN | apply Kd.R_drew)); exact HO_6.out⟩, ⟨by (with_reducible repeat (first | refine blk_drewN ?_ _ | refine blk_drew ?_ | refine blk_alloc ?_ _)); exact BK166.out⟩, ⟨by repeat (first | (with_reducible first | exact HB.out | apply below_alloc | apply pw_below_drewN | apply below_drew1 | refine below_set ?_ GE166.out) | exact HB.out)⟩⟩
        case rest =>
          clear HC15
          try clear c1
          try clear p1
          try clear q1
          try clear hx1
          try clear c2
          try clear p2
          try clear q2
          try clear c3
          try clear c4
          try clear c6
          try clear c6b0
          try clear c6b1
          try clear p6
          try clear c8
          try clear c12
          try clear p17
          try clear q17
          try clear hx17
          try clear c19
          try clear c22
          try clear c22b0
          try clear c23
          try clear c23b0
          try clear q24
          try clear c25
          try clear c26
          try clear hcz11_0
          try clear hcz11_1
          try clear hcz13_0
          try clear hcz13_1
          try clear hcz18_0
          try clear hcz18_1
          try clear hcz20_0
          try clear hcz20_1
          try clear hfz11_0
          try clear hfz11_1
          try clear hfz13_0
          try clear hfz13_1
          try clear hfz18_0
          try clear hfz18_1
          try clear hfz20_0
          try clear hfz20_1
          try clear hx177_0
          try clear hx177_1
          try clear hx177_2
          try clear p177
          try clear p2
          try clear q177
          obtain ⟨kq, x12_14, rfl, HA, HJ14, HO_6, BK166, HB⟩ := hcut
          cases kq with
          | zero => exact absurd HA.out (by simp [moatref12_Add.j1])
          | succ kj14 =>
            have H := HA.out
            clear HA
            simp only [moatref12_Add.j1] at H
            by_cases c29 : x12_14 < (t167.length : Int)
            · rw [if_pos c29] at H
              have c29b0 : decide (x12_14 < (t167.length : Int)) = true := decide_eq_true c29
              clear c29
              by_cases c30 : 0 ≤ x12_14
              · rw [if_pos c30] at H
                have c30b0 : decide (0 ≤ x12_14) = true := decide_eq_true c30
                clear c30
                obtain ⟨y178, hy178⟩ : ∃ y_ : List (S67), y_ = (t167.set (x12_14 : Int).toNat (⟨(⟨a1_0, a1_1⟩ : S23), true⟩ : S67)) := ⟨_, rfl⟩
                replace H : ((moatref12_Bytes.f kj14 y178).bind fun t179 => (some (t179, 0))) = some (r1, r2) := by first | (rw [hy178]; with_reducible exact H) | (have H2_ := (Option.bind_some _ _).symm.trans H; rw [hy178]; with_reducible exact H2_) | (have H2_ := (Option.bind_some _ _).symm.trans H; with_reducible exact H2_) | with_reducible exact H | (rw [hy178]; exact H) | exact H
                have Ny178 := Aside0.mk hy178
                clear hy178
                replace H := Option.bind_eq_some_iff.mp H
                obtain ⟨t179, A320, H⟩ := H
                replace H : (some (t179, 0)) = some (r1, r2) := H
                have A32 := Aside0.mk A320
                clear A320
                simp only [Option.some.injEq, Prod.mk.injEq] at H
                obtain ⟨rfl, rfl⟩ := H
                obtain ⟨Ao33, co33, eo33⟩ := Kd.R_slice HO_6.out
                subst eo33
                have hcz34_0 : wc.cell? ⟨gb166, 0, none⟩ = some (.string a1_0) := (blk_cell BK166.out 0).trans rfl
                have hcz34_1 : wc.cell? ⟨gb166, 1, none⟩ = some (.int .i64 a1_1) := (blk_cell BK166.out 1).trans rfl
                have hfz34_0 := blk_frozen BK166.out 0
                have hfz34_1 := blk_frozen BK166.out 1
                have p31 : 0 ≤ (x12_14 : Int) := of_decide_eq_true (by first | (with_reducible assumption) | assumption)
                have q31 : (x12_14 : Int) < ((t167.length : Int) : Int) := of_decide_eq_true (by first | (with_reducible assumption) | assumption)
                obtain ⟨go31, co31, eo31, gb31, gl31, cl31, HG31⟩ := Kd.R_form HO_6.out (by omega)
                (first | cases eo31 | (injection eo31 with ea_ en_ ec_; (first | subst ea_ | (injection ea_ with ea_; subst ea_)); subst ec_; clear en_))
                have GB31 := Aside0.mk gb31
                have GG31 := Aside0.mk HG31
                clear gb31 gl31 HG31
                obtain ⟨ce31, hcl31, hM31, hcc31, hfr31⟩ := Kd.R_elem HO_6.out z67 (x12_14 : Int) p31 q31
                obtain rfl := k67_openM hM31
                have hx31_0 : wc.cell? ⟨go31, (x12_14 : Int).toNat * 3, none⟩ = some (.string ((rd_T67 t167 x12_14).f0.f0)) := hcc31 0 _ rfl
                have hx31_1 : wc.cell? ⟨go31, (x12_14 : Int).toNat * 3 + 1, none⟩ = some (.int .i64 ((rd_T67 t167 x12_14).f0.f1)) := hcc31 1 _ rfl
                have hx31_2 : wc.cell? ⟨go31, (x12_14 : Int).toNat * 3 + 2, none⟩ = some (.bool ((rd_T67 t167 x12_14).f1)) := hcc31 2 _ rfl
                have hf31_0 : wc.frozen? ⟨go31, (x12_14 : Int).toNat * 3, none⟩ = false := hfr31 0
                have hf31_1 : wc.frozen? ⟨go31, (x12_14 : Int).toNat * 3 + 1, none⟩ = false := hfr31 1
                have hf31_2 : wc.frozen? ⟨go31, (x12_14 : Int).toNat * 3 + 2, none⟩ = false := hfr31 2
                clear hcl31 hcc31 hfr31 hM31
                replace p31 := eq_true p31
                replace q31 := eq_true q31
                have HX35 := Aside0.mk (show Kd.R k67 67 wc w.heap.size (fun _ => True) (.slice (some ⟨go31, 0, none⟩) t167.length co33) t167 from (by (with_reducible repeat (first | apply Kd.R_alloc | apply Kd.R_drewN | apply Kd.R_drew)); exact HO_6.out))
                obtain ⟨ce35, hcl35, hM35, hcc35, hfr35⟩ := Kd.R_elem HX35.out z67 (x12_14 : Int) (of_decide_eq_true (by first | (with_reducible assumption) | assumption)) (by have h_ : (x12_14 : Int) < ((t167.length : Int) : Int) := of_decide_eq_true (by first | (with_reducible assumption) | assumption); first | exact h_ | (have e_ := (Kd.R_reads' HO_6.out).1; omega) | simpa using h_)
                obtain rfl := k67_openM hM35
                have HP35 := Kd.R_seg HX35.out (x12_14 : Int) (of_decide_eq_true (by first | (with_reducible assumption) | assumption)) (by have h_ : (x12_14 : Int) < ((t167.length : Int) : Int) := of_decide_eq_true (by first | (with_reducible assumption) | assumption); first | exact h_ | (have e_ := (Kd.R_reads' HO_6.out).1; omega) | simpa using h_) (seg := [.string a1_0, .int .i64 a1_1, .bool true]) (j := 0) hcl35 hcc35 (show 3 ≤ 3 from by decide) (x' := (⟨(⟨a1_0, a1_1⟩ : S23), true⟩ : S67)) (k67_mkM _ _ _ (⟨(⟨a1_0, a1_1⟩ : S23), true⟩ : S67) ) (fun _ hk => hk)
                have hx35_0 := hcc35 0 _ rfl
                (try simp only [show (k67).sz = 3 from rfl, Nat.mul_one, Nat.add_zero] at hx35_0)
                have hf35_0 := hfr35 0
                (try simp only [show (k67).sz = 3 from rfl, Nat.mul_one, Nat.add_zero] at hf35_0)
                have hx35_1 := hcc35 1 _ rfl
                (try simp only [show (k67).sz = 3 from rfl, Nat.mul_one, Nat.add_zero] at hx35_1)
                have hf35_1 := hfr35 1
                (try simp only [show (k67).sz = 3 from rfl, Nat.mul_one, Nat.add_zero] at hf35_1)
                have hx35_2 := hcc35 2 _ rfl
                (try simp only [show (k67).sz = 3 from rfl, Nat.mul_one, Nat.add_zero] at hx35_2)
                have hf35_2 := hfr35 2
                (try simp only [show (k67).sz = 3 from rfl, Nat.mul_one, Nat.add_zero] at hf35_2)
                clear hcl35 hcc35 hfr35 hM35
                go_wp2_with (first | ((with_reducible refine gate_store (t := 67) (p := 57) rfl ?_); refine store_event (t := 67) (p := 57) (v := ?vo_w36) (w1 := (((wc.setCell ⟨go31, (x12_14 : Int).toNat * 3, none⟩ (.string a1_0)).setCell ⟨go31, (x12_14 : Int).toNat * 3 + 1, none⟩ (.int .i64 a1_1)).setCell ⟨go31, (x12_14 : Int).toNat * 3 + 2, none⟩ (.bool true))) ?hg ?ho ?hn ?hr ?_; (case ho => rfl); (case hg => rfl); (case hn => rfl); (case hr => first | (go_simp; done) | (go_simp; rfl)); intro w36 hw; have hg : wc.grownBy w36 (some go31) := (by rw [hw]; exact HP35.2); have hp_ : Kd.R k67 67 w36 w.heap.size (fun _ => True) (.slice (some ⟨go31, 0, none⟩) t167.length co33) y178 := (by rw [hw, Ny178.out]; exact HP35.1); clear HP35; have n0_ := Aside0.mk (hp_); have n1_ := Aside0.mk (blk_grown (g := gb166) (o := .cells #[.string a1_0, .int .i64 a1_1] 23 (0, 0)) (by (with_reducible repeat (first | refine blk_drewN ?_ _ | refine blk_drew ?_ | refine blk_alloc ?_ _)); exact BK166.out) hg (Kd.R_ne HO_6.out BK166.out (by decide))); have n2_ := Aside0.mk ((by rw [hw]; exact below_set (below_set (below_set (HB.out) GB31.out) GB31.out) GB31.out : Below w.heap.size w w36)); clear HO_6; clear BK166; clear HB; have HO_6 := n0_; have BK166 := n1_; have HB := n2_; clear n0_ n1_ n2_; clear hg hw hp_) | ((with_reducible refine gate_callee (f := 38) rfl ?_); refine goesL_ (some 59) rfl rfl Try.func38 (by kernel_rfl) rfl #[.slice (some ⟨go31, 0, none⟩) y178.length co33] rfl (by (try simp only [List.map_toArray, List.map_cons, List.map_nil]); first | done | (rw [show y178.length = t167.length from (Kd.R_reads' HO_6.out).1.symm] <;> rfl) | rfl | (simp only [List.length_drop, List.length_take]; rfl)) ?_; (with_reducible refine (moatref12_Bytes.calls kj14 _ _ y178 t179 _ ?side1 ?side2 A32.out).mono ?_); (case side1 => repeat (first | exact (Kd.R_reads' HO_6.out).2.2 | (with_reducible refine Kd.C_alloc ?_ _) | (with_reducible refine Kd.C_drewN ?_ _) | (with_reducible refine Kd.C_drew ?_))); (case side2 => rw [show y178.length = t167.length from (Kd.R_reads' HO_6.out).1.symm]; exact (Kd.R_reads' HO_6.out).2.1); rintro e w37 ⟨v180, rfl, ho0, hb⟩; refine ⟨_, rfl, ?_⟩; have n0_ := Aside0.mk (Kd.R_below (by (with_reducible repeat (first | apply Kd.R_alloc | apply Kd.R_drewN | apply Kd.R_drew)); exact HO_6.out) hb); have n1_ := Aside0.mk (Kd.R_lower ho0 (below_size (by repeat (first | (with_reducible first | exact HB.out | apply below_alloc | apply pw_below_drewN | apply below_drew1 | refine below_set ?_ GE166.out) | exact HB.out)))); have n2_ := Aside0.mk (blk_below (g := gb166) (o := .cells #[.string a1_0, .int .i64 a1_1] 23 (0, 0)) (by (with_reducible repeat (first | refine blk_drewN ?_ _ | refine blk_drew ?_ | refine blk_alloc ?_ _)); exact BK166.out) hb); have n3_ := Aside0.mk (below_step (by repeat (first | (with_reducible first | exact HB.out | apply below_alloc | apply pw_below_drewN | apply below_drew1 | refine below_set ?_ GE166.out) | exact HB.out)) hb); clear HO_6; clear BK166; clear HB; have HO_6 := n0_; have HO181 := n1_; have BK166 := n2_; have HB := n3_; clear n0_ n1_ n2_ n3_; (try clear hb); (try clear hb2); (try clear hk); (try clear hi); (try clear ho0)))
                go_ret2
                exact ⟨_, by first | rfl | (simp [errW_none, errW_some] <;> rfl) | (simp [*, errW_none, errW_some] <;> rfl), by (with_reducible repeat (first | apply Kd.R_alloc | apply Kd.R_drewN | apply Kd.R_drew)); exact HO181.out, by repeat (first | (with_reducible first | exact HB.out | apply below_alloc | apply pw_below_drewN | apply below_drew1 | refine below_set ?_ GE166.out) | exact HB.out)⟩
              · rw [if_neg c30] at H
                exact absurd H (by simp)
            · rw [if_neg c29] at H
              have c29b0 : decide (x12_14 < (t167.length : Int)) = false := decide_eq_false c29
              clear c29
              by_cases c38 : (wrap64 ((l0.length : Int) + 16)) > 3840
              · rw [if_pos c38] at H
                have c38b0 : decide (3840 < (wrap64 ((l0.length : Int) + 16))) = true := decide_eq_true c38
                clear c38
                simp only [Option.some.injEq, Prod.mk.injEq] at H
                obtain ⟨rfl, rfl⟩ := H
                obtain ⟨Ao39, co39, eo39⟩ := Kd.R_slice HO_6.out
                subst eo39
                go_wp2
                go_ret2
                exact ⟨_, by first | rfl | (simp [errW_none, errW_some] <;> rfl) | (simp [*, errW_none, errW_some] <;> rfl), by first | exact Kd.R_nil _ _ _ _ _ | exact Kd.N_nil _ _ _ _ _ | exact Kd.V_nil _ _ _ _ _ | exact Kd.Q_nil _ _ _ _ _ | exact Kd.S_nil _ _ _ _ _, by repeat (first | (with_reducible first | exact HB.out | apply below_alloc | apply pw_below_drewN | apply below_drew1 | refine below_set ?_ GE166.out) | exact HB.out)⟩
              · rw [if_neg c38] at H
                have c38b0 : decide (3840 < (wrap64 ((l0.length : Int) + 16))) = false := decide_eq_false c38
                clear c38
                by_cases c40 : t167.length < 4398046511104
                · rw [if_pos c40] at H
                  have LMc40 := Aside0.mk c40
                  clear c40
                  obtain ⟨y182, hy182⟩ : ∃ y_ : List (S67), y_ = (t167 ++ [(⟨(⟨a1_0, a1_1⟩ : S23), true⟩ : S67)]) := ⟨_, rfl⟩
                  replace H : ((moatref12_Bytes.f kj14 y182).bind fun t185 => (some (t185, 0))) = some (r1, r2) := by first | (rw [hy182]; with_reducible exact H) | (have H2_ := (Option.bind_some _ _).symm.trans H; rw [hy182]; with_reducible exact H2_) | (have H2_ := (Option.bind_some _ _).symm.trans H; with_reducible exact H2_) | with_reducible exact H | (rw [hy182]; exact H) | exact H
                  have Ny182 := Aside0.mk hy182
                  clear hy182
                  replace H := Option.bind_eq_some_iff.mp H
                  obtain ⟨t185, A410, H⟩ := H
                  replace H : (some (t185, 0)) = some (r1, r2) := H
                  have A41 := Aside0.mk A410
                  clear A410
                  simp only [Option.some.injEq, Prod.mk.injEq] at H
                  obtain ⟨rfl, rfl⟩ := H
                  obtain ⟨Ao42, co42, eo42⟩ := Kd.R_slice HO_6.out
                  subst eo42
                  have hcz43_0 : wc.cell? ⟨gb166, 0, none⟩ = some (.string a1_0) := (blk_cell BK166.out 0).trans rfl
                  have hcz43_1 : wc.cell? ⟨gb166, 1, none⟩ = some (.int .i64 a1_1) := (blk_cell BK166.out 1).trans rfl
                  have hfz43_0 := blk_frozen BK166.out 0
                  have hfz43_1 := blk_frozen BK166.out 1
                  go_wp2_with (first | ((with_reducible refine gate_builtin (b := .append) (xs := #[.tmp 64, .tmp 67]) rfl ?_); at_builtin; refine Kd.R_append k67 (w0 := w) w.heap.size rfl (.tmp 64) (.tmp 67) 63 67 (.agg #[(.string ⟨#[]⟩), (.int .i64 0), (.bool false)]) 32 rfl Try.underlying63 info67 rfl (by decide) (by omega) (.slice Ao42 t167.length co42) t167 (⟨(⟨a1_0, a1_1⟩ : S23), true⟩ : S67) [.string a1_0, .int .i64 a1_1, .bool true] (fun _ => True) (fun _ => False) rfl rfl ?aP (fun _ hk => hk.elim) ?aF ?aO ?aB ?aS ?aL ?_; (case aP => exact k67_mkM _ _ _ (⟨(⟨a1_0, a1_1⟩ : S23), true⟩ : S67)); (case aB => exact (by repeat (first | (with_reducible first | exact HB.out | apply below_alloc | apply pw_below_drewN | apply below_drew1 | refine below_set ?_ GE166.out) | exact HB.out))); (case aF => exact (fun _ _ => trivial)); (case aO => exact (by (with_reducible repeat (first | apply Kd.R_alloc | apply Kd.R_drewN | apply Kd.R_drew)); exact HO_6.out)); (case aS => exact (below_size (by repeat (first | (with_reducible first | exact HB.out | apply below_alloc | apply pw_below_drewN | apply below_drew1 | refine below_set ?_ GE166.out) | exact HB.out)))); (case aL => have := LMc40.out; omega); intro v183 w44 ho hb hg hat; rw [← Ny182.out] at ho; have n0_ := Aside0.mk (blk_grown (g := gb166) (o := .cells #[.string a1_0, .int .i64 a1_1] 23 (0, 0)) (by (with_reducible repeat (first | refine blk_drewN ?_ _ | refine blk_drew ?_ | refine blk_alloc ?_ _)); exact BK166.out) hg (Kd.R_ne HO_6.out BK166.out (by decide))); have n1_ := Aside0.mk (hb); have n2_ := Aside0.mk (ho); clear BK166; clear HB; clear HO_6; have BK166 := n0_; have HB := n1_; have HO184 := n2_; clear n0_ n1_ n2_; clear ho hb hg hat; obtain ⟨Ao45, co45, eo45⟩ := Kd.R_slice HO184.out; subst eo45) | ((with_reducible refine gate_callee (f := 38) rfl ?_); refine goesL_ (some 70) rfl rfl Try.func38 (by kernel_rfl) rfl #[.slice Ao45 y182.length co45] rfl (by (try simp only [List.map_toArray, List.map_cons, List.map_nil]); first | done | rfl | (simp only [List.length_drop, List.length_take]; rfl)) ?_; (with_reducible refine (moatref12_Bytes.calls kj14 _ _ y182 t185 _ ?side1 ?side2 A41.out).mono ?_); (case side1 => repeat (first | exact (Kd.R_reads' HO184.out).2.2 | (with_reducible refine Kd.C_alloc ?_ _) | (with_reducible refine Kd.C_drewN ?_ _) | (with_reducible refine Kd.C_drew ?_))); (case side2 => exact (Kd.R_reads' HO184.out).2.1); rintro e w46 ⟨v186, rfl, ho0, hb⟩; refine ⟨_, rfl, ?_⟩; have n0_ := Aside0.mk (Kd.R_below (by (with_reducible repeat (first | apply Kd.R_alloc | apply Kd.R_drewN | apply Kd.R_drew)); exact HO184.out) hb); have n1_ := Aside0.mk (Kd.R_lower ho0 (below_size (by repeat (first | (with_reducible first | exact HB.out | apply below_alloc | apply pw_below_drewN | apply below_drew1 | refine below_set ?_ GE166.out) | exact HB.out)))); have n2_ := Aside0.mk (blk_below (g := gb166) (o := .cells #[.string a1_0, .int .i64 a1_1] 23 (0, 0)) (by (with_reducible repeat (first | refine blk_drewN ?_ _ | refine blk_drew ?_ | refine blk_alloc ?_ _)); exact BK166.out) hb); have n3_ := Aside0.mk (below_step (by repeat (first | (with_reducible first | exact HB.out | apply below_alloc | apply pw_below_drewN | apply below_drew1 | refine below_set ?_ GE166.out) | exact HB.out)) hb); clear HO184; clear BK166; clear HB; have HO184 := n0_; have HO187 := n1_; have BK166 := n2_; have HB := n3_; clear n0_ n1_ n2_ n3_; (try clear hb); (try clear hb2); (try clear hk); (try clear hi); (try clear ho0)))
                  go_ret2
                  exact ⟨_, by first | rfl | (simp [errW_none, errW_some] <;> rfl) | (simp [*, errW_none, errW_some] <;> rfl), by (with_reducible repeat (first | apply Kd.R_alloc | apply Kd.R_drewN | apply Kd.R_drew)); exact HO187.out, by repeat (first | (with_reducible first | exact HB.out | apply below_alloc | apply pw_below_drewN | apply below_drew1 | refine below_set ?_ GE166.out) | exact HB.out)⟩
                · rw [if_neg c40] at H
                  exact absurd H (by simp)
    · rw [if_neg c6] at H
      have c6b0 : (t174 == 0) = false := beq_eq_false_iff_ne.mpr c6
      have c6b1 : (t174 != 0) = true := bne_iff_ne.mpr c6
      simp only [Option.some.injEq, Prod.mk.injEq] at H
      obtain ⟨rfl, rfl⟩ := H
      go_enter Try.func19, Try.ntmps19
      go_wp2_with (first | ((with_reducible refine gate_dst (N := 3) rfl ?_); refine box_event ?hg (N := 3) ?hd (cs := #[.string a1_0, .int .i64 a1_1]) (t := 23) ?hr ?_; (case hd => rfl); (case hg => rfl); (case hr => first | (go_simp; done) | (go_simp; rfl)); intro gb166 hg w47 hbox hb; have n0_ := Aside0.mk (below_step (by repeat (first | (with_reducible first | exact HB.out | apply below_alloc | apply pw_below_drewN | apply below_drew1) | exact HB.out)) hb); have n1_ := Aside0.mk (hbox); have n2_ := Aside0.mk ((by rw [hg]; exact (below_size (by repeat (first | (with_reducible first | exact HB.out | apply below_alloc | apply pw_below_drewN | apply below_drew1) | exact HB.out))) : w.heap.size ≤ gb166)); have n3_ := Aside0.mk ((by rw [hg]; exact (below_size (by repeat (first | (with_reducible first | exact HB.out | apply below_alloc | apply pw_below_drewN | apply below_drew1) | exact HB.out))) : w.heap.size ≤ gb166)); clear HB; have HB := n0_; have BK166 := n1_; have GW166 := n2_; have GE166 := n3_; clear n0_ n1_ n2_ n3_; clear hb hbox hg) | ((with_reducible refine gate_callee (f := 37) rfl ?_); refine goesL_ (some 15) rfl rfl Try.func37 (by kernel_rfl) rfl #[.slice A0 l0.length c0] rfl (by (try simp only [List.map_toArray, List.map_cons, List.map_nil]); first | done | rfl | (simp only [List.length_drop, List.length_take]; rfl)) ?_; (with_reducible refine (moatref12_Slots.calls k _ _ l0 t167 true _ ?side1 ?side2 A3.out).mono ?_); (case side1 => repeat (first | exact (Kd.C_below HR0.out HB.out) | (with_reducible refine Kd.C_alloc ?_ _) | (with_reducible refine Kd.C_drewN ?_ _) | (with_reducible refine Kd.C_drew ?_))); (case side2 => exact HC0.out); rintro e w48 ⟨v169, rfl, ho0, hb⟩; refine ⟨_, rfl, ?_⟩; have n0_ := Aside0.mk (Kd.R_lower ho0 (below_size (by repeat (first | (with_reducible first | exact HB.out | apply below_alloc | apply pw_below_drewN | apply below_drew1 | refine below_set ?_ GE166.out) | exact HB.out)))); have n1_ := Aside0.mk (blk_below (g := gb166) (o := .cells #[.string a1_0, .int .i64 a1_1] 23 (0, 0)) (by (with_reducible repeat (first | refine blk_drewN ?_ _ | refine blk_drew ?_ | refine blk_alloc ?_ _)); exact BK166.out) hb); have n2_ := Aside0.mk (below_step (by repeat (first | (with_reducible first | exact HB.out | apply below_alloc | apply pw_below_drewN | apply below_drew1 | refine below_set ?_ GE166.out) | exact HB.out)) hb); clear BK166; clear HB; have HO170 := n0_; have BK166 := n1_; have HB := n2_; clear n0_ n1_ n2_; (try clear hb); (try clear hb2); (try clear hk); (try clear hi); (try clear ho0); have hcz49_0 : w48.cell? ⟨gb166, 0, none⟩ = some (.string a1_0) := (blk_cell BK166.out 0).trans rfl; have hcz49_1 : w48.cell? ⟨gb166, 1, none⟩ = some (.int .i64 a1_1) := (blk_cell BK166.out 1).trans rfl; have hfz49_0 := blk_frozen BK166.out 0; have hfz49_1 := blk_frozen BK166.out 1) | ((with_reducible refine gate_callee (f := 12) rfl ?_); refine goesL_ (some 22) rfl rfl Try.func12 (by kernel_rfl) rfl #[.agg #[.string a1_0, .int .i64 a1_1]] rfl (by (try simp only [List.map_toArray, List.map_cons, List.map_nil]); first | done | rfl | (simp only [List.length_drop, List.length_take]; rfl)) ?_; (with_reducible refine (moatref12_Lay.calls a1_0 a1_1 t171 t174 _ A5.out).mono ?_); rintro e w50 ⟨v172, rfl, ho0, hb⟩; refine ⟨_, rfl, ?_⟩; have n0_ := Aside0.mk (Kd.R_below (by (with_reducible repeat (first | apply Kd.R_alloc | apply Kd.R_drewN | apply Kd.R_drew)); exact HO170.out) hb); have n1_ := Aside0.mk (Kd.R_lower ho0 (below_size (by repeat (first | (with_reducible first | exact HB.out | apply below_alloc | apply pw_below_drewN | apply below_drew1 | refine below_set ?_ GE166.out) | exact HB.out)))); have n2_ := Aside0.mk (blk_below (g := gb166) (o := .cells #[.string a1_0, .int .i64 a1_1] 23 (0, 0)) (by (with_reducible repeat (first | refine blk_drewN ?_ _ | refine blk_drew ?_ | refine blk_alloc ?_ _)); exact BK166.out) hb); have n3_ := Aside0.mk (below_step (by repeat (first | (with_reducible first | exact HB.out | apply below_alloc | apply pw_below_drewN | apply below_drew1 | refine below_set ?_ GE166.out) | exact HB.out)) hb); clear HO170; clear BK166; clear HB; have HO170 := n0_; have HO173 := n1_; have BK166 := n2_; have HB := n3_; clear n0_ n1_ n2_ n3_; (try clear hb); (try clear hb2); (try clear hk); (try clear hi); (try clear ho0)))
      go_ret2
      exact ⟨_, by first | rfl | (simp [errW_none, errW_some] <;> rfl) | (simp [*, errW_none, errW_some] <;> rfl), by first | exact Kd.R_nil _ _ _ _ _ | exact Kd.N_nil _ _ _ _ _ | exact Kd.V_nil _ _ _ _ _ | exact Kd.Q_nil _ _ _ _ _ | exact Kd.S_nil _ _ _ _ _, by repeat (first | (with_reducible first | exact HB.out | apply below_alloc | apply pw_below_drewN | apply below_drew1 | refine below_set ?_ GE166.out) | exact HB.out)⟩
  · replace c4 := Bool.eq_false_iff.mpr c4
    subst c4
    have H1 : (some (([] : List Int), 121)) = some (r1, r2) := by rw [if_neg (show ¬ (false = true) by decide)] at H; exact H
    clear H
    have H := H1
    clear H1
    simp only [Option.some.injEq, Prod.mk.injEq] at H
    obtain ⟨rfl, rfl⟩ := H
    go_enter Try.func19, Try.ntmps19
    go_wp2_with (first | ((with_reducible refine gate_dst (N := 3) rfl ?_); refine box_event ?hg (N := 3) ?hd (cs := #[.string a1_0, .int .i64 a1_1]) (t := 23) ?hr ?_; (case hd => rfl); (case hg => rfl); (case hr => first | (go_simp; done) | (go_simp; rfl)); intro gb166 hg w51 hbox hb; have n0_ := Aside0.mk (below_step (by repeat (first | (with_reducible first | exact HB.out | apply below_alloc | apply pw_below_drewN | apply below_drew1) | exact HB.out)) hb); have n1_ := Aside0.mk (hbox); have n2_ := Aside0.mk ((by rw [hg]; exact (below_size (by repeat (first | (with_reducible first | exact HB.out | apply below_alloc | apply pw_below_drewN | apply below_drew1) | exact HB.out))) : w.heap.size ≤ gb166)); have n3_ := Aside0.mk ((by rw [hg]; exact (below_size (by repeat (first | (with_reducible first | exact HB.out | apply below_alloc | apply pw_below_drewN | apply below_drew1) | exact HB.out))) : w.heap.size ≤ gb166)); clear HB; have HB := n0_; have BK166 := n1_; have GW166 := n2_; have GE166 := n3_; clear n0_ n1_ n2_ n3_; clear hb hbox hg) | ((with_reducible refine gate_callee (f := 37) rfl ?_); refine goesL_ (some 15) rfl rfl Try.func37 (by kernel_rfl) rfl #[.slice A0 l0.length c0] rfl (by (try simp only [List.map_toArray, List.map_cons, List.map_nil]); first | done | rfl | (simp only [List.length_drop, List.length_take]; rfl)) ?_; (with_reducible refine (moatref12_Slots.calls k _ _ l0 t167 false _ ?side1 ?side2 A3.out).mono ?_); (case side1 => repeat (first | exact (Kd.C_below HR0.out HB.out) | (with_reducible refine Kd.C_alloc ?_ _) | (with_reducible refine Kd.C_drewN ?_ _) | (with_reducible refine Kd.C_drew ?_))); (case side2 => exact HC0.out); rintro e w52 ⟨v169, rfl, ho0, hb⟩; refine ⟨_, rfl, ?_⟩; have n0_ := Aside0.mk (Kd.R_lower ho0 (below_size (by repeat (first | (with_reducible first | exact HB.out | apply below_alloc | apply pw_below_drewN | apply below_drew1 | refine below_set ?_ GE166.out) | exact HB.out)))); have n1_ := Aside0.mk (blk_below (g := gb166) (o := .cells #[.string a1_0, .int .i64 a1_1] 23 (0, 0)) (by (with_reducible repeat (first | refine blk_drewN ?_ _ | refine blk_drew ?_ | refine blk_alloc ?_ _)); exact BK166.out) hb); have n2_ := Aside0.mk (below_step (by repeat (first | (with_reducible first | exact HB.out | apply below_alloc | apply pw_below_drewN | apply below_drew1 | refine below_set ?_ GE166.out) | exact HB.out)) hb); clear BK166; clear HB; have HO170 := n0_; have BK166 := n1_; have HB := n2_; clear n0_ n1_ n2_; (try clear hb); (try clear hb2); (try clear hk); (try clear hi); (try clear ho0)))
    go_ret2
    exact ⟨_, by first | rfl | (simp [errW_none, errW_some] <;> rfl) | (simp [*, errW_none, errW_some] <;> rfl), by first | exact Kd.R_nil _ _ _ _ _ | exact Kd.N_nil _ _ _ _ _ | exact Kd.V_nil _ _ _ _ _ | exact Kd.Q_nil _ _ _ _ _ | exact Kd.S_nil _ _ _ _ _, by repeat (first | (with_reducible first | exact HB.out | apply below_alloc | apply pw_below_drewN | apply below_drew1 | refine below_set ?_ GE166.out) | exact HB.out)⟩

/-! ### moatref12_Remove: function 21 -/
mutual
def moatref12_Remove.l0 : Nat → ByteArray → List (S67) → Bool → Int → Option (List Int × Int)
  | 0, _, _, _, _ => none
  | k + 1, x1, x6, x8, x9 => if x9 < (x6.length : Int) then (if 0 ≤ x9 then (if (rd_T67 x6 x9).f1 = true then (if ((rd_T67 x6 x9).f0.f0).toList = x1.toList then (moatref12_Remove.l0 k x1 (x6.set (x9 : Int).toNat (⟨(⟨(⟨#[]⟩ : ByteArray), 0⟩ : S23), false⟩ : S67)) true (wrap64 (x9 + 1))) else (moatref12_Remove.l0 k x1 x6 x8 (wrap64 (x9 + 1)))) else (moatref12_Remove.l0 k x1 x6 x8 (wrap64 (x9 + 1)))) else (none)) else (if x8 = true then (moatref12_Remove.l1 k x6) else (some (([] : List Int), 2)))
def moatref12_Remove.l1 : Nat → List (S67) → Option (List Int × Int)
  | 0, _ => none
  | k + 1, x6 => if (x6.length : Int) > 0 then (if 0 ≤ (wrap64 ((x6.length : Int) - 1)) then (if (wrap64 ((x6.length : Int) - 1)) < (x6.length : Int) then (if ((rd_T67 x6 (wrap64 ((x6.length : Int) - 1))).f1 = true) then ((moatref12_Bytes.f k x6).bind fun t196 => (some (t196, 0))) else (if (wrap64 ((x6.length : Int) - 1)) ≤ (x6.length : Int) then (moatref12_Remove.l1 k (x6.take ((wrap64 ((x6.length : Int) - 1)) : Int).toNat)) else (none))) else (none)) else (none)) else ((moatref12_Bytes.f k x6).bind fun t202 => (some (t202, 0)))
end
def moatref12_Remove.f (k : Nat) (l0 : List Int) (a1 : ByteArray) : Option (List Int × Int) := (moatref12_Slots.f k l0).bind fun bt188 => (if bt188.2 = true then (moatref12_Remove.l0 k a1 bt188.1 false 0) else (some (([] : List Int), 121)))
theorem moatref12_Remove.mono_l : ∀ k, (∀ y0 y1 y2 y3, LeO (moatref12_Remove.l0 k y0 y1 y2 y3) (moatref12_Remove.l0 (k + 1) y0 y1 y2 y3)) ∧ (∀ y0, LeO (moatref12_Remove.l1 k y0) (moatref12_Remove.l1 (k + 1) y0))
  | 0 => ⟨fun _ _ _ _ r h => by simp [moatref12_Remove.l0] at h, fun _ r h => by simp [moatref12_Remove.l1] at h⟩
  | k + 1 => by
    obtain ⟨ih0, ih1⟩ := moatref12_Remove.mono_l k
    refine ⟨?_, ?_⟩
    · intro y0 y1 y2 y3
      unfold moatref12_Remove.l0
      repeat' first
      | (with_reducible exact ih0 _ _ _ _)
      | (with_reducible exact ih1 _)
      | (with_reducible exact moatref12_Bytes.mono _ _)
      | (with_reducible exact moatref12_Slots.mono _ _)
      | (with_reducible exact LeO.refl _)
      | (with_reducible exact LeO.none _)
      | (with_reducible refine LeO.ite ?_ ?_)
      | (with_reducible refine LeO.bind ?_ (fun _ => ?_))
      | exact ih0 _ _ _ _
      | exact ih1 _
      | exact moatref12_Bytes.mono _ _
      | exact moatref12_Slots.mono _ _
      | exact LeO.none _
      | refine LeO.ite ?_ ?_
      | refine LeO.bind ?_ (fun _ => ?_)
    · intro y0
      unfold moatref12_Remove.l1
      repeat' first
      | (with_reducible exact ih0 _ _ _ _)
      | (with_reducible exact ih1 _)
      | (with_reducible exact moatref12_Bytes.mono _ _)
      | (with_reducible exact moatref12_Slots.mono _ _)
      | (with_reducible exact LeO.refl _)
      | (with_reducible exact LeO.none _)
      | (with_reducible refine LeO.ite ?_ ?_)
      | (with_reducible refine LeO.bind ?_ (fun _ => ?_))
      | exact ih0 _ _ _ _
      | exact ih1 _
      | exact moatref12_Bytes.mono _ _
      | exact moatref12_Slots.mono _ _
      | exact LeO.none _
      | refine LeO.ite ?_ ?_
      | refine LeO.bind ?_ (fun _ => ?_)
theorem moatref12_Remove.mono : ∀ a0 a1 k, LeO (moatref12_Remove.f k a0 a1) (moatref12_Remove.f (k + 1) a0 a1) := by
  intro a0 a1 k
  obtain ⟨ih0, ih1⟩ := moatref12_Remove.mono_l k
  unfold moatref12_Remove.f
  repeat' first
      | (with_reducible exact ih0 _ _ _ _)
      | (with_reducible exact ih1 _)
      | (with_reducible exact moatref12_Bytes.mono _ _)
      | (with_reducible exact moatref12_Slots.mono _ _)
      | (with_reducible exact LeO.refl _)
      | (with_reducible exact LeO.none _)
      | (with_reducible refine LeO.ite ?_ ?_)
      | (with_reducible refine LeO.bind ?_ (fun _ => ?_))
      | exact ih0 _ _ _ _
      | exact ih1 _
      | exact moatref12_Bytes.mono _ _
      | exact moatref12_Slots.mono _ _
      | exact LeO.none _
      | refine LeO.ite ?_ ?_
      | refine LeO.bind ?_ (fun _ => ?_)
set_option maxHeartbeats 8000000 in
set_option maxRecDepth 100000 in
theorem moatref12_Remove.calls (k : Nat) (A0 : Option Addr) (c0 : Nat) (l0 : List Int) (a1 : ByteArray) (r1 : List Int) (r2 : Int) (w : World) (hr0 : Kd.C (Kd.int .u8) w A0 l0.length l0) (hc0 : l0.length ≤ c0) (h : moatref12_Remove.f k l0 a1 = some (r1, r2)) :
    Calls Try.prog 21 #[.slice A0 l0.length c0, .string a1] w fun e w' => ∃ v0_ : Value, e = .returned (.tuple #[v0_, .int .i64 r2]) ∧ Kd.R (Kd.int .u8) 5 w' w.heap.size (fun _ => True) v0_ r1 ∧ Below w.heap.size w w' := by
  have hu67 := Try.underlying67
  have HR0 := Aside0.mk hr0
  have HC0 := Aside0.mk hc0
  clear hr0 hc0
  have HB := Aside0.mk (Below.refl w.heap.size w)
  have H : ((moatref12_Slots.f k l0).bind fun bt188 => (if bt188.2 = true then (moatref12_Remove.l0 k a1 bt188.1 false 0) else (some (([] : List Int), 121)))) = some (r1, r2) := h
  clear h
  replace H := Option.bind_eq_some_iff.mp H
  obtain ⟨⟨t188, t189⟩, A30, H⟩ := H
  replace H : (if t189 = true then (moatref12_Remove.l0 k a1 t188 false 0) else (some (([] : List Int), 121))) = some (r1, r2) := H
  have A3 := Aside0.mk A30
  clear A30
  by_cases c4 : t189 = true
  · subst c4
    have H1 : (moatref12_Remove.l0 k a1 t188 false 0) = some (r1, r2) := by rw [if_pos rfl] at H; exact H
    clear H
    have H := H1
    clear H1
    have H' := Aside0.mk H
    clear H
    go_enter Try.func21, Try.ntmps21
    go_wp2_with (first | ((with_reducible refine gate_callee (f := 37) rfl ?_); refine goesL_ (some 12) rfl rfl Try.func37 (by kernel_rfl) rfl #[.slice A0 l0.length c0] rfl (by (try simp only [List.map_toArray, List.map_cons, List.map_nil]); first | done | rfl | (simp only [List.length_drop, List.length_take]; rfl)) ?_; (with_reducible refine (moatref12_Slots.calls k _ _ l0 t188 true _ ?side1 ?side2 A3.out).mono ?_); (case side1 => repeat (first | exact HR0.out | (with_reducible refine Kd.C_alloc ?_ _) | (with_reducible refine Kd.C_drewN ?_ _) | (with_reducible refine Kd.C_drew ?_))); (case side2 => exact HC0.out); rintro e w5 ⟨v190, rfl, ho0, hb⟩; refine ⟨_, rfl, ?_⟩; have n0_ := Aside0.mk (Kd.R_lower ho0 (below_size (by repeat (first | (with_reducible first | exact HB.out | apply below_alloc | apply pw_below_drewN | apply below_drew1) | exact HB.out)))); have n1_ := Aside0.mk (below_step (by repeat (first | (with_reducible first | exact HB.out | apply below_alloc | apply pw_below_drewN | apply below_drew1) | exact HB.out)) hb); clear HB; have HO191 := n0_; have HB := n1_; clear n0_ n1_; (try clear hb); (try clear hb2); (try clear hk); (try clear hi); (try clear ho0)))
    go_loopg [8, 9] k (fun kq v8 v9 w' => ∃ (x6_1 : List (S67)) (x8_1 : Bool) (x9_1 : Int), v8 = .bool x8_1 ∧ v9 = .int .i64 x9_1 ∧ Aside0 (moatref12_Remove.l0 kq a1 x6_1 x8_1 x9_1 = some (r1, r2)) ∧ Aside0 (kq ≤ k) ∧ Aside0 (Kd.R k67 67 w' w.heap.size (fun _ => True) v190 x6_1) ∧ Aside0 (Below w.heap.size w w'))
    case atStart => exact ⟨(t188), (false), (0), (by first | rfl | (simp; done) | (simp [*]; done)), (by first | rfl | (simp; done) | (simp [*]; done)), H', ⟨Nat.le_refl _⟩, ⟨by (with_reducible repeat (first | apply Kd.R_alloc | apply Kd.R_drewN | apply Kd.R_drew)); exact HO191.out⟩, ⟨by repeat (first | (with_reducible first | exact HB.out | apply below_alloc | apply pw_below_drewN | apply below_drew1) | exact HB.out)⟩⟩
    case round =>
      clear H'
      try clear c2
      try clear p2
      try clear c3
      try clear c4
      obtain ⟨x6_1, x8_1, x9_1, rfl, rfl, HA, HK1, HO_6, HB⟩ := hrel
      cases gk with
      | zero => exact absurd HA.out (by simp [moatref12_Remove.l0])
      | succ k1 =>
        have H := HA.out
        clear HA
        simp only [moatref12_Remove.l0] at H
        by_cases c6 : x9_1 < (x6_1.length : Int)
        · rw [if_pos c6] at H
          have c6b0 : decide (x9_1 < (x6_1.length : Int)) = true := decide_eq_true c6
          clear c6
          by_cases c7 : 0 ≤ x9_1
          · rw [if_pos c7] at H
            have c7b0 : decide (0 ≤ x9_1) = true := decide_eq_true c7
            clear c7
            obtain ⟨bq8, hbq8⟩ : ∃ b_ : Bool, b_ = ((rd_T67 x6_1 x9_1).f1) := ⟨_, rfl⟩
            replace H : (if bq8 = true then (if ((rd_T67 x6_1 x9_1).f0.f0).toList = a1.toList then (moatref12_Remove.l0 k1 a1 (x6_1.set (x9_1 : Int).toNat (⟨(⟨(⟨#[]⟩ : ByteArray), 0⟩ : S23), false⟩ : S67)) true (wrap64 (x9_1 + 1))) else (moatref12_Remove.l0 k1 a1 x6_1 x8_1 (wrap64 (x9_1 + 1)))) else (moatref12_Remove.l0 k1 a1 x6_1 x8_1 (wrap64 (x9_1 + 1)))) = some (r1, r2) := by rw [← hbq8] at H; exact H
            have Nbq8 := Aside0.mk hbq8
            clear hbq8
            by_cases c9 : bq8 = true
            · subst c9
              have H1 : (if ((rd_T67 x6_1 x9_1).f0.f0).toList = a1.toList then (moatref12_Remove.l0 k1 a1 (x6_1.set (x9_1 : Int).toNat (⟨(⟨(⟨#[]⟩ : ByteArray), 0⟩ : S23), false⟩ : S67)) true (wrap64 (x9_1 + 1))) else (moatref12_Remove.l0 k1 a1 x6_1 x8_1 (wrap64 (x9_1 + 1)))) = some (r1, r2) := by rw [if_pos rfl] at H; exact H
              clear H
              have H := H1
              clear H1
              by_cases c10 : ((rd_T67 x6_1 x9_1).f0.f0).toList = a1.toList
              · rw [if_pos c10] at H
                have c10b0 : (((rd_T67 x6_1 x9_1).f0.f0).toList == a1.toList) = true := beq_iff_eq.mpr c10
                have c10b1 : (((rd_T67 x6_1 x9_1).f0.f0).toList != a1.toList) = false := bne_eq_false_iff_eq.mpr c10
                clear c10
                obtain ⟨y194, hy194⟩ : ∃ y_ : List (S67), y_ = (x6_1.set (x9_1 : Int).toNat (⟨(⟨(⟨#[]⟩ : ByteArray), 0⟩ : S23), false⟩ : S67)) := ⟨_, rfl⟩
                replace H : (moatref12_Remove.l0 k1 a1 y194 true (wrap64 (x9_1 + 1))) = some (r1, r2) := by first | (rw [hy194]; with_reducible exact H) | (have H2_ := (Option.bind_some _ _).symm.trans H; rw [hy194]; with_reducible exact H2_) | (have H2_ := (Option.bind_some _ _).symm.trans H; with_reducible exact H2_) | with_reducible exact H | (rw [hy194]; exact H) | exact H
                have Ny194 := Aside0.mk hy194
                clear hy194
                have H' := Aside0.mk H
                clear H
                obtain ⟨Ao12, co12, eo12⟩ := Kd.R_slice HO_6.out
                subst eo12
                have p192 : 0 ≤ (x9_1 : Int) := of_decide_eq_true (by first | (with_reducible assumption) | assumption)
                have q192 : x9_1 < (x6_1.length : Int) := of_decide_eq_true (by first | (with_reducible assumption) | assumption)
                obtain ⟨ad192, e192, hx192_0, hx192_1, hx192_2⟩ := at_T67 (Kd.R_reads' HO_6.out).2.2 x9_1 p192 q192
                (try rw [← Nbq8.out] at hx192_2)
                cases e192
                replace p192 := eq_true p192
                replace q192 := eq_true q192
                have p193 : 0 ≤ (x9_1 : Int) := of_decide_eq_true (by first | (with_reducible assumption) | assumption)
                have q193 : x9_1 < (x6_1.length : Int) := of_decide_eq_true (by first | (with_reducible assumption) | assumption)
                obtain ⟨ad193, e193, hx193_0, hx193_1, hx193_2⟩ := at_T67 (Kd.R_reads' HO_6.out).2.2 x9_1 p193 q193
                (try rw [← Nbq8.out] at hx193_2)
                obtain rfl : ad192 = ad193 := (by injection e193)
                replace p193 := eq_true p193
                replace q193 := eq_true q193
                have p11 : 0 ≤ (x9_1 : Int) := of_decide_eq_true (by first | (with_reducible assumption) | assumption)
                have q11 : (x9_1 : Int) < ((x6_1.length : Int) : Int) := of_decide_eq_true (by first | (with_reducible assumption) | assumption)
                obtain ⟨go11, co11, eo11, gb11, gl11, cl11, HG11⟩ := Kd.R_form HO_6.out (by omega)
                (first | cases eo11 | (injection eo11 with ea_ en_ ec_; (first | subst ea_ | (injection ea_ with ea_; subst ea_)); subst ec_; clear en_))
                have GB11 := Aside0.mk gb11
                have GG11 := Aside0.mk HG11
                clear gb11 gl11 HG11
                (first | simp only [add_plain] at hx192_0 | skip)
                (first | simp only [add_plain] at hx192_1 | skip)
                (first | simp only [add_plain] at hx192_2 | skip)
                (first | simp only [add_plain] at hx193_0 | skip)
                (first | simp only [add_plain] at hx193_1 | skip)
                (first | simp only [add_plain] at hx193_2 | skip)
                obtain ⟨ce11, hcl11, hM11, hcc11, hfr11⟩ := Kd.R_elem HO_6.out z67 (x9_1 : Int) p11 q11
                obtain rfl := k67_openM hM11
                have hx11_0 : wr.cell? ⟨go11, (x9_1 : Int).toNat * 3, none⟩ = some (.string ((rd_T67 x6_1 x9_1).f0.f0)) := hcc11 0 _ rfl
                have hx11_1 : wr.cell? ⟨go11, (x9_1 : Int).toNat * 3 + 1, none⟩ = some (.int .i64 ((rd_T67 x6_1 x9_1).f0.f1)) := hcc11 1 _ rfl
                have hx11_2 : wr.cell? ⟨go11, (x9_1 : Int).toNat * 3 + 2, none⟩ = some (.bool ((rd_T67 x6_1 x9_1).f1)) := hcc11 2 _ rfl
                have hf11_0 : wr.frozen? ⟨go11, (x9_1 : Int).toNat * 3, none⟩ = false := hfr11 0
                have hf11_1 : wr.frozen? ⟨go11, (x9_1 : Int).toNat * 3 + 1, none⟩ = false := hfr11 1
                have hf11_2 : wr.frozen? ⟨go11, (x9_1 : Int).toNat * 3 + 2, none⟩ = false := hfr11 2
                clear hcl11 hcc11 hfr11 hM11
                replace p11 := eq_true p11
                replace q11 := eq_true q11
                have HX13 := Aside0.mk (show Kd.R k67 67 wr w.heap.size (fun _ => True) (.slice (some ⟨go11, 0, none⟩) x6_1.length co12) x6_1 from (by (with_reducible repeat (first | apply Kd.R_alloc | apply Kd.R_drewN | apply Kd.R_drew)); exact HO_6.out))
                obtain ⟨ce13, hcl13, hM13, hcc13, hfr13⟩ := Kd.R_elem HX13.out z67 (x9_1 : Int) (of_decide_eq_true (by first | (with_reducible assumption) | assumption)) (by have h_ : (x9_1 : Int) < ((x6_1.length : Int) : Int) := of_decide_eq_true (by first | (with_reducible assumption) | assumption); first | exact h_ | (have e_ := (Kd.R_reads' HO_6.out).1; omega) | simpa using h_)
                obtain rfl := k67_openM hM13
                have HP13 := Kd.R_seg HX13.out (x9_1 : Int) (of_decide_eq_true (by first | (with_reducible assumption) | assumption)) (by have h_ : (x9_1 : Int) < ((x6_1.length : Int) : Int) := of_decide_eq_true (by first | (with_reducible assumption) | assumption); first | exact h_ | (have e_ := (Kd.R_reads' HO_6.out).1; omega) | simpa using h_) (seg := [.string (⟨#[]⟩ : ByteArray), .int .i64 0, .bool false]) (j := 0) hcl13 hcc13 (show 3 ≤ 3 from by decide) (x' := (⟨(⟨(⟨#[]⟩ : ByteArray), 0⟩ : S23), false⟩ : S67)) (k67_mkM _ _ _ (⟨(⟨(⟨#[]⟩ : ByteArray), 0⟩ : S23), false⟩ : S67) ) (fun _ hk => hk)
                have hx13_0 := hcc13 0 _ rfl
                (try simp only [show (k67).sz = 3 from rfl, Nat.mul_one, Nat.add_zero] at hx13_0)
                have hf13_0 := hfr13 0
                (try simp only [show (k67).sz = 3 from rfl, Nat.mul_one, Nat.add_zero] at hf13_0)
                have hx13_1 := hcc13 1 _ rfl
                (try simp only [show (k67).sz = 3 from rfl, Nat.mul_one, Nat.add_zero] at hx13_1)
                have hf13_1 := hfr13 1
                (try simp only [show (k67).sz = 3 from rfl, Nat.mul_one, Nat.add_zero] at hf13_1)
                have hx13_2 := hcc13 2 _ rfl
                (try simp only [show (k67).sz = 3 from rfl, Nat.mul_one, Nat.add_zero] at hx13_2)
                have hf13_2 := hfr13 2
                (try simp only [show (k67).sz = 3 from rfl, Nat.mul_one, Nat.add_zero] at hf13_2)
                clear hcl13 hcc13 hfr13 hM13
                go_wp2_with (first | ((with_reducible refine gate_store (t := 67) (p := 41) rfl ?_); refine store_event (t := 67) (p := 41) (v := ?vo_w14) (w1 := (((wr.setCell ⟨go11, (x9_1 : Int).toNat * 3, none⟩ (.string (⟨#[]⟩ : ByteArray))).setCell ⟨go11, (x9_1 : Int).toNat * 3 + 1, none⟩ (.int .i64 0)).setCell ⟨go11, (x9_1 : Int).toNat * 3 + 2, none⟩ (.bool false))) ?hg ?ho ?hn ?hr ?_; (case ho => rfl); (case hg => rfl); (case hn => rfl); (case hr => first | (go_simp; done) | (go_simp; rfl)); intro w14 hw; have hg : wr.grownBy w14 (some go11) := (by rw [hw]; exact HP13.2); have hp_ : Kd.R k67 67 w14 w.heap.size (fun _ => True) (.slice (some ⟨go11, 0, none⟩) x6_1.length co12) y194 := (by rw [hw, Ny194.out]; exact HP13.1); clear HP13; have n0_ := Aside0.mk (hp_); have n1_ := Aside0.mk ((by rw [hw]; exact below_set (below_set (below_set (HB.out) GB11.out) GB11.out) GB11.out : Below w.heap.size w w14)); clear HO_6; clear HB; have HO_6 := n0_; have HB := n1_; clear n0_ n1_; clear hg hw hp_))
                go_roundg k1
                case measure => have := HK1.out; omega
                case rel => exact ⟨(y194), (true), (wrap64 (x9_1 + 1)), (by first | rfl | (simp; done) | (simp [*]; done)), (by first | rfl | (simp; done) | (simp [*]; done)), H', ⟨by have := HK1.out; omega⟩, ⟨by (with_reducible repeat (first | apply Kd.R_alloc | apply Kd.R_drewN | apply Kd.R_drew)); exact HO_6.out⟩, ⟨by repeat (first | (with_reducible first | exact HB.out | apply below_alloc | apply pw_below_drewN | apply below_drew1) | exact HB.out)⟩⟩
              · rw [if_neg c10] at H
                have c10b0 : (((rd_T67 x6_1 x9_1).f0.f0).toList == a1.toList) = false := beq_eq_false_iff_ne.mpr c10
                have c10b1 : (((rd_T67 x6_1 x9_1).f0.f0).toList != a1.toList) = true := bne_iff_ne.mpr c10
                have H' := Aside0.mk H
                clear H
                obtain ⟨Ao15, co15, eo15⟩ := Kd.R_slice HO_6.out
                subst eo15
                have p192 : 0 ≤ (x9_1 : Int) := of_decide_eq_true (by first | (with_reducible assumption) | assumption)
                have q192 : x9_1 < (x6_1.length : Int) := of_decide_eq_true (by first | (with_reducible assumption) | assumption)
                obtain ⟨ad192, e192, hx192_0, hx192_1, hx192_2⟩ := at_T67 (Kd.R_reads' HO_6.out).2.2 x9_1 p192 q192
                (try rw [← Nbq8.out] at hx192_2)
                cases e192
                replace p192 := eq_true p192
                replace q192 := eq_true q192
                have p193 : 0 ≤ (x9_1 : Int) := of_decide_eq_true (by first | (with_reducible assumption) | assumption)
                have q193 : x9_1 < (x6_1.length : Int) := of_decide_eq_true (by first | (with_reducible assumption) | assumption)
                obtain ⟨ad193, e193, hx193_0, hx193_1, hx193_2⟩ := at_T67 (Kd.R_reads' HO_6.out).2.2 x9_1 p193 q193
                (try rw [← Nbq8.out] at hx193_2)
                obtain rfl : ad192 = ad193 := (by injection e193)
                replace p193 := eq_true p193
                replace q193 := eq_true q193
                go_wp2
                go_roundg k1
                case measure => have := HK1.out; omega
                case rel => exact ⟨(x6_1), (x8_1), (wrap64 (x9_1 + 1)), (by first | rfl | (simp; done) | (simp [*]; done)), (by first | rfl | (simp; done) | (simp [*]; done)), H', ⟨by have := HK1.out; omega⟩, ⟨by (with_reducible repeat (first | apply Kd.R_alloc | apply Kd.R_drewN | apply Kd.R_drew)); exact HO_6.out⟩, ⟨by repeat (first | (with_reducible first | exact HB.out | apply below_alloc | apply pw_below_drewN | apply below_drew1) | exact HB.out)⟩⟩
            · replace c9 := Bool.eq_false_iff.mpr c9
              subst c9
              have H1 : (moatref12_Remove.l0 k1 a1 x6_1 x8_1 (wrap64 (x9_1 + 1))) = some (r1, r2) := by rw [if_neg (show ¬ (false = true) by decide)] at H; exact H
              clear H
              have H := H1
              clear H1
              have H' := Aside0.mk H
              clear H
              obtain ⟨Ao16, co16, eo16⟩ := Kd.R_slice HO_6.out
              subst eo16
              have p192 : 0 ≤ (x9_1 : Int) := of_decide_eq_true (by first | (with_reducible assumption) | assumption)
              have q192 : x9_1 < (x6_1.length : Int) := of_decide_eq_true (by first | (with_reducible assumption) | assumption)
              obtain ⟨ad192, e192, hx192_0, hx192_1, hx192_2⟩ := at_T67 (Kd.R_reads' HO_6.out).2.2 x9_1 p192 q192
              (try rw [← Nbq8.out] at hx192_2)
              cases e192
              replace p192 := eq_true p192
              replace q192 := eq_true q192
              go_wp2
              go_roundg k1
              case measure => have := HK1.out; omega
              case rel => exact ⟨(x6_1), (x8_1), (wrap64 (x9_1 + 1)), (by first | rfl | (simp; done) | (simp [*]; done)), (by first | rfl | (simp; done) | (simp [*]; done)), H', ⟨by have := HK1.out; omega⟩, ⟨by (with_reducible repeat (first | apply Kd.R_alloc | apply Kd.R_drewN | apply Kd.R_drew)); exact HO_6.out⟩, ⟨by repeat (first | (with_reducible first | exact HB.out | apply below_alloc | apply pw_below_drewN | apply below_drew1) | exact HB.out)⟩⟩
          · rw [if_neg c7] at H
            exact absurd H (by simp)
        · rw [if_neg c6] at H
          have c6b0 : decide (x9_1 < (x6_1.length : Int)) = false := decide_eq_false c6
          clear c6
          by_cases c17 : x8_1 = true
          · subst c17
            have H1 : (moatref12_Remove.l1 k1 x6_1) = some (r1, r2) := by rw [if_pos rfl] at H; exact H
            clear H
            have H := H1
            clear H1
            have H' := Aside0.mk H
            clear H
            obtain ⟨Ao18, co18, eo18⟩ := Kd.R_slice HO_6.out
            subst eo18
            go_wp2
            go_loopg [6] k1 (fun kq v6 w' => ∃ (x6_2 : List (S67)), Aside0 (moatref12_Remove.l1 kq x6_2 = some (r1, r2)) ∧ Aside0 (kq ≤ k1) ∧ Aside0 (Kd.R k67 67 w' w.heap.size (fun _ => True) v6 x6_2) ∧ Aside0 (Below w.heap.size w w'))
            case atStart => exact ⟨(x6_1), H', ⟨Nat.le_refl _⟩, ⟨by (with_reducible repeat (first | apply Kd.R_alloc | apply Kd.R_drewN | apply Kd.R_drew)); exact HO_6.out⟩, ⟨by repeat (first | (with_reducible first | exact HB.out | apply below_alloc | apply pw_below_drewN | apply below_drew1) | exact HB.out)⟩⟩
            case round =>
              clear H'
              try clear c1
              try clear p1
              try clear q1
              try clear hx1
              try clear c2
              try clear p2
              try clear c3
              try clear c4
              try clear c6
              try clear c6b0
              try clear p6
              try clear c7
              try clear c7b0
              try clear q8
              try clear c9
              try clear c10
              try clear c10b0
              try clear c10b1
              try clear c11
              try clear p11
              try clear q11
              try clear hx11
              try clear hf11
              try clear c13
              try clear hx13
              try clear hf13
              try clear c17
              try clear hx11_0
              try clear hx11_1
              try clear hx11_2
              try clear hx13_0
              try clear hx13_1
              try clear hx13_2
              try clear hx192_0
              try clear hx192_1
              try clear hx192_2
              try clear hx193_0
              try clear hx193_1
              try clear hx193_2
              try clear p11
              try clear p192
              try clear p193
              try clear p2
              try clear q11
              try clear q192
              try clear q193
              obtain ⟨x6_2, HA, HK2, HO_6, HB⟩ := hrel
              cases gk with
              | zero => exact absurd HA.out (by simp [moatref12_Remove.l1])
              | succ k2 =>
                have H := HA.out
                clear HA
                simp only [moatref12_Remove.l1] at H
                by_cases c19 : (x6_2.length : Int) > 0
                · rw [if_pos c19] at H
                  have c19b0 : decide (0 < (x6_2.length : Int)) = true := decide_eq_true c19
                  have c19b1 : decide (0 < x6_2.length) = true := decide_eq_true (by omega)
                  clear c19
                  obtain ⟨ji20, hji20⟩ : ∃ j_ : Int, (wrap64 ((x6_2.length : Int) - 1)) = j_ := ⟨_, rfl⟩
                  replace H : (if 0 ≤ (ji20) then (if (ji20) < (x6_2.length : Int) then (if ((rd_T67 x6_2 (ji20)).f1 = true) then ((moatref12_Bytes.f k2 x6_2).bind fun t196 => (some (t196, 0))) else (if (ji20) ≤ (x6_2.length : Int) then (moatref12_Remove.l1 k2 (x6_2.take ((ji20) : Int).toNat)) else (none))) else (none)) else (none)) = some (r1, r2) := by first | (rw [hji20] at H; exact H) | (simp only [hji20] at H ⊢; exact H)
                  have hji20w : (IntKind.i64.wrap ((x6_2.length : Int) - 1)) = ji20 := (i64_w _).trans hji20
                  by_cases c21 : 0 ≤ (ji20)
                  · rw [if_pos c21] at H
                    have c21b0 : decide (0 ≤ (ji20)) = true := decide_eq_true c21
                    clear c21
                    by_cases c22 : (ji20) < (x6_2.length : Int)
                    · rw [if_pos c22] at H
                      have c22b0 : decide ((ji20) < (x6_2.length : Int)) = true := decide_eq_true c22
                      clear c22
                      obtain ⟨bq23, hbq23⟩ : ∃ b_ : Bool, b_ = ((rd_T67 x6_2 (ji20)).f1) := ⟨_, rfl⟩
                      replace H : (if (bq23 = true) then ((moatref12_Bytes.f k2 x6_2).bind fun t196 => (some (t196, 0))) else (if (ji20) ≤ (x6_2.length : Int) then (moatref12_Remove.l1 k2 (x6_2.take ((ji20) : Int).toNat)) else (none))) = some (r1, r2) := by rw [← hbq23] at H; exact H
                      have Nbq23 := Aside0.mk hbq23
                      clear hbq23
                      by_cases c24 : (bq23 = true)
                      · subst c24
                        have H1 : ((moatref12_Bytes.f k2 x6_2).bind fun t196 => (some (t196, 0))) = some (r1, r2) := by rw [if_pos rfl] at H; exact H
                        clear H
                        have H := H1
                        clear H1
                        replace H := Option.bind_eq_some_iff.mp H
                        obtain ⟨t196, A250, H⟩ := H
                        replace H : (some (t196, 0)) = some (r1, r2) := H
                        have A25 := Aside0.mk A250
                        clear A250
                        simp only [Option.some.injEq, Prod.mk.injEq] at H
                        obtain ⟨rfl, rfl⟩ := H
                        obtain ⟨Ao26, co26, eo26⟩ := Kd.R_slice HO_6.out
                        subst eo26
                        have p195 : 0 ≤ ((ji20) : Int) := of_decide_eq_true (by first | (with_reducible assumption) | assumption)
                        have q195 : (ji20) < (x6_2.length : Int) := of_decide_eq_true (by first | (with_reducible assumption) | assumption)
                        obtain ⟨ad195, e195, hx195_0, hx195_1, hx195_2⟩ := at_T67 (Kd.R_reads' HO_6.out).2.2 (ji20) p195 q195
                        (try rw [← Nbq23.out] at hx195_2)
                        cases e195
                        replace p195 := eq_true p195
                        replace q195 := eq_true q195
                        go_wp2_with (first | ((with_reducible refine gate_callee (f := 38) rfl ?_); refine goesL_ (some 63) rfl rfl Try.func38 (by kernel_rfl) rfl #[.slice (some ad195) x6_2.length co26] rfl (by (try simp only [List.map_toArray, List.map_cons, List.map_nil]); first | done | rfl | (simp only [List.length_drop, List.length_take]; rfl)) ?_; (with_reducible refine (moatref12_Bytes.calls k2 _ _ x6_2 t196 _ ?side1 ?side2 A25.out).mono ?_); (case side1 => repeat (first | exact (Kd.R_reads' HO_6.out).2.2 | (with_reducible refine Kd.C_alloc ?_ _) | (with_reducible refine Kd.C_drewN ?_ _) | (with_reducible refine Kd.C_drew ?_))); (case side2 => exact (Kd.R_reads' HO_6.out).2.1); rintro e w27 ⟨v197, rfl, ho0, hb⟩; refine ⟨_, rfl, ?_⟩; have n0_ := Aside0.mk (Kd.R_below (by (with_reducible repeat (first | apply Kd.R_alloc | apply Kd.R_drewN | apply Kd.R_drew)); exact HO_6.out) hb); have n1_ := Aside0.mk (Kd.R_lower ho0 (below_size (by repeat (first | (with_reducible first | exact HB.out | apply below_alloc | apply pw_below_drewN | apply below_drew1) | exact HB.out)))); have n2_ := Aside0.mk (below_step (by repeat (first | (with_reducible first | exact HB.out | apply below_alloc | apply pw_below_drewN | apply below_drew1) | exact HB.out)) hb); clear HO_6; clear HB; have HO_6 := n0_; have HO198 := n1_; have HB := n2_; clear n0_ n1_ n2_; (try clear hb); (try clear hb2); (try clear hk); (try clear hi); (try clear ho0)))
                        go_ret2
                        exact ⟨_, by first | rfl | (simp [errW_none, errW_some] <;> rfl) | (simp only [← hji20]; first | rfl | (simp [errW_none, errW_some] <;> rfl)) | (simp [*, errW_none, errW_some] <;> rfl), by (with_reducible repeat (first | apply Kd.R_alloc | apply Kd.R_drewN | apply Kd.R_drew)); exact HO198.out, by repeat (first | (with_reducible first | exact HB.out | apply below_alloc | apply pw_below_drewN | apply below_drew1) | exact HB.out)⟩
                      · replace c24 := Bool.eq_false_iff.mpr c24
                        subst c24
                        have H1 : (if (ji20) ≤ (x6_2.length : Int) then (moatref12_Remove.l1 k2 (x6_2.take ((ji20) : Int).toNat)) else (none)) = some (r1, r2) := by rw [if_neg (show ¬ (false = true) by decide)] at H; exact H
                        clear H
                        have H := H1
                        clear H1
                        by_cases c28 : (ji20) ≤ (x6_2.length : Int)
                        · rw [if_pos c28] at H
                          have c28b0 := eq_true c28
                          have c28b1 : decide ((ji20) ≤ (x6_2.length : Int)) = true := decide_eq_true c28
                          clear c28
                          obtain ⟨y199, hy199⟩ : ∃ y_ : List (S67), y_ = (x6_2.take ((ji20) : Int).toNat) := ⟨_, rfl⟩
                          replace H : (moatref12_Remove.l1 k2 y199) = some (r1, r2) := by first | (rw [hy199]; with_reducible exact H) | (have H2_ := (Option.bind_some _ _).symm.trans H; rw [hy199]; with_reducible exact H2_) | (have H2_ := (Option.bind_some _ _).symm.trans H; with_reducible exact H2_) | with_reducible exact H | (rw [hy199]; exact H) | exact H
                          have Ny199 := Aside0.mk hy199
                          clear hy199
                          have H' := Aside0.mk H
                          clear H
                          obtain ⟨Ao29, co29, eo29⟩ := Kd.R_slice HO_6.out
                          subst eo29
                          have p195 : 0 ≤ ((ji20) : Int) := of_decide_eq_true (by first | (with_reducible assumption) | assumption)
                          have q195 : (ji20) < (x6_2.length : Int) := of_decide_eq_true (by first | (with_reducible assumption) | assumption)
                          obtain ⟨ad195, e195, hx195_0, hx195_1, hx195_2⟩ := at_T67 (Kd.R_reads' HO_6.out).2.2 (ji20) p195 q195
                          (try rw [← Nbq23.out] at hx195_2)
                          cases e195
                          replace p195 := eq_true p195
                          replace q195 := eq_true q195
                          have q30 : ((ji20) : Int) ≤ ((x6_2.length : Int) : Int) := of_decide_eq_true (by first | (with_reducible assumption) | assumption)
                          obtain ⟨i030, hi030, _, hsz30, _⟩ := info_parts info67
                          have hcut30 := cut_to (P := Try.prog) 63 67 .i64 Try.underlying63 hi030 (some ad195) x6_2.length co29 (ji20) (of_decide_eq_true (by first | (with_reducible assumption) | assumption)) q30 (Kd.R_reads' HO_6.out).2.1
                          have hr30 := Kd.R_take (m := ((ji20) : Int).toNat) HO_6.out (by omega)
                          have hy30 : y199.length = ((ji20) : Int).toNat := (by rw [Ny199.out, List.length_take]; omega)
                          rw [← Ny199.out] at hr30
                          rw [← hy30] at hr30 hcut30
                          clear hy30 hi030 hsz30 HO_6
                          have HO201 := Aside0.mk hr30
                          clear hr30
                          replace q30 := eq_true q30
                          go_wp2
                          go_roundg k2
                          case measure => have := HK1.out; have := HK2.out; omega
                          case rel => exact ⟨(y199), H', ⟨by have := HK1.out; have := HK2.out; omega⟩, ⟨by (with_reducible repeat (first | apply Kd.R_alloc | apply Kd.R_drewN | apply Kd.R_drew)); exact HO201.out⟩, ⟨by repeat (first | (with_reducible first | exact HB.out | apply below_alloc | apply pw_below_drewN | apply below_drew1) | exact HB.out)⟩⟩
                        · rw [if_neg c28] at H
                          exact absurd H (by simp)
                    · rw [if_neg c22] at H
                      exact absurd H (by simp)
                  · rw [if_neg c21] at H
                    exact absurd H (by simp)
                · rw [if_neg c19] at H
                  have c19b0 : decide (0 < (x6_2.length : Int)) = false := decide_eq_false c19
                  have c19b1 : decide (0 < x6_2.length) = false := decide_eq_false (by omega)
                  clear c19
                  replace H := Option.bind_eq_some_iff.mp H
                  obtain ⟨t202, A310, H⟩ := H
                  replace H : (some (t202, 0)) = some (r1, r2) := H
                  have A31 := Aside0.mk A310
                  clear A310
                  simp only [Option.some.injEq, Prod.mk.injEq] at H
                  obtain ⟨rfl, rfl⟩ := H
                  obtain ⟨Ao32, co32, eo32⟩ := Kd.R_slice HO_6.out
                  subst eo32
                  go_wp2_with (first | ((with_reducible refine gate_callee (f := 38) rfl ?_); refine goesL_ (some 63) rfl rfl Try.func38 (by kernel_rfl) rfl #[.slice Ao32 x6_2.length co32] rfl (by (try simp only [List.map_toArray, List.map_cons, List.map_nil]); first | done | rfl | (simp only [List.length_drop, List.length_take]; rfl)) ?_; (with_reducible refine (moatref12_Bytes.calls k2 _ _ x6_2 t202 _ ?side1 ?side2 A31.out).mono ?_); (case side1 => repeat (first | exact (Kd.R_reads' HO_6.out).2.2 | (with_reducible refine Kd.C_alloc ?_ _) | (with_reducible refine Kd.C_drewN ?_ _) | (with_reducible refine Kd.C_drew ?_))); (case side2 => exact (Kd.R_reads' HO_6.out).2.1); rintro e w33 ⟨v203, rfl, ho0, hb⟩; refine ⟨_, rfl, ?_⟩; have n0_ := Aside0.mk (Kd.R_below (by (with_reducible repeat (first | apply Kd.R_alloc | apply Kd.R_drewN | apply Kd.R_drew)); exact HO_6.out) hb); have n1_ := Aside0.mk (Kd.R_lower ho0 (below_size (by repeat (first | (with_reducible first | exact HB.out | apply below_alloc | apply pw_below_drewN | apply below_drew1) | exact HB.out)))); have n2_ := Aside0.mk (below_step (by repeat (first | (with_reducible first | exact HB.out | apply below_alloc | apply pw_below_drewN | apply below_drew1) | exact HB.out)) hb); clear HO_6; clear HB; have HO_6 := n0_; have HO204 := n1_; have HB := n2_; clear n0_ n1_ n2_; (try clear hb); (try clear hb2); (try clear hk); (try clear hi); (try clear ho0)))
                  go_ret2
                  exact ⟨_, by first | rfl | (simp [errW_none, errW_some] <;> rfl) | (simp [*, errW_none, errW_some] <;> rfl), by (with_reducible repeat (first | apply Kd.R_alloc | apply Kd.R_drewN | apply Kd.R_drew)); exact HO204.out, by repeat (first | (with_reducible first | exact HB.out | apply below_alloc | apply pw_below_drewN | apply below_drew1) | exact HB.out)⟩
          · replace c17 := Bool.eq_false_iff.mpr c17
            subst c17
            have H1 : (some (([] : List Int), 2)) = some (r1, r2) := by rw [if_neg (show ¬ (false = true) by decide)] at H; exact H
            clear H
            have H := H1
            clear H1
            simp only [Option.some.injEq, Prod.mk.injEq] at H
            obtain ⟨rfl, rfl⟩ := H
            obtain ⟨Ao34, co34, eo34⟩ := Kd.R_slice HO_6.out
            subst eo34
            go_wp2
            go_ret2
            exact ⟨_, by first | rfl | (simp [errW_none, errW_some] <;> rfl) | (simp [*, errW_none, errW_some] <;> rfl), by first | exact Kd.R_nil _ _ _ _ _ | exact Kd.N_nil _ _ _ _ _ | exact Kd.V_nil _ _ _ _ _ | exact Kd.Q_nil _ _ _ _ _ | exact Kd.S_nil _ _ _ _ _, by repeat (first | (with_reducible first | exact HB.out | apply below_alloc | apply pw_below_drewN | apply below_drew1) | exact HB.out)⟩
  · replace c4 := Bool.eq_false_iff.mpr c4
    subst c4
    have H1 : (some (([] : List Int), 121)) = some (r1, r2) := by rw [if_neg (show ¬ (false = true) by decide)] at H; exact H
    clear H
    have H := H1
    clear H1
    simp only [Option.some.injEq, Prod.mk.injEq] at H
    obtain ⟨rfl, rfl⟩ := H
    go_enter Try.func21, Try.ntmps21
    go_wp2_with (first | ((with_reducible refine gate_callee (f := 37) rfl ?_); refine goesL_ (some 12) rfl rfl Try.func37 (by kernel_rfl) rfl #[.slice A0 l0.length c0] rfl (by (try simp only [List.map_toArray, List.map_cons, List.map_nil]); first | done | rfl | (simp only [List.length_drop, List.length_take]; rfl)) ?_; (with_reducible refine (moatref12_Slots.calls k _ _ l0 t188 false _ ?side1 ?side2 A3.out).mono ?_); (case side1 => repeat (first | exact HR0.out | (with_reducible refine Kd.C_alloc ?_ _) | (with_reducible refine Kd.C_drewN ?_ _) | (with_reducible refine Kd.C_drew ?_))); (case side2 => exact HC0.out); rintro e w35 ⟨v190, rfl, ho0, hb⟩; refine ⟨_, rfl, ?_⟩; have n0_ := Aside0.mk (Kd.R_lower ho0 (below_size (by repeat (first | (with_reducible first | exact HB.out | apply below_alloc | apply pw_below_drewN | apply below_drew1) | exact HB.out)))); have n1_ := Aside0.mk (below_step (by repeat (first | (with_reducible first | exact HB.out | apply below_alloc | apply pw_below_drewN | apply below_drew1) | exact HB.out)) hb); clear HB; have HO191 := n0_; have HB := n1_; clear n0_ n1_; (try clear hb); (try clear hb2); (try clear hk); (try clear hi); (try clear ho0)))
    go_ret2
    exact ⟨_, by first | rfl | (simp [errW_none, errW_some] <;> rfl) | (simp [*, errW_none, errW_some] <;> rfl), by first | exact Kd.R_nil _ _ _ _ _ | exact Kd.N_nil _ _ _ _ _ | exact Kd.V_nil _ _ _ _ _ | exact Kd.Q_nil _ _ _ _ _ | exact Kd.S_nil _ _ _ _ _, by repeat (first | (with_reducible first | exact HB.out | apply below_alloc | apply pw_below_drewN | apply below_drew1) | exact HB.out)⟩

end Go.Proofs.Ytinfjmdcmfpdiaa.D

/- Contracts of functions that the statements reach: each call's answer as a plain Lean function. Printed by a program of this session (over the kit's print) out of the translation; Lean checks it. -/
namespace Go.Proofs.Ytinfjmdcmfpdiaa.D
open Go.Proofs.Ytinfjmdcmfpdiaa.P Go.RowKit Go.Proofs.YtinfjmdcmfpdiaaW.PrintWords Go.Proofs.YtinfjmdcmfpdiaaW.PrintLast Go.Proofs.YtinfjmdcmfpdiaaW.PrintMore
set_option linter.unusedVariables false
set_option linter.unusedSimpArgs false

attribute [local go_sem high] eqA23
/-! ### moatref12_Same: function 27 -/
def moatref12_Same.l0 : Nat → List (S23) → List (S23) → Int → Option (Bool)
  | 0, _, _, _ => none
  | k + 1, x0, x1, x5 => if x5 < (x0.length : Int) then (if 0 ≤ x5 then (if x5 < (x1.length : Int) then (if (!((((rd_T23 x0 x5).f0).toList) == (((rd_T23 x1 x5).f0).toList)) || (!(((rd_T23 x0 x5).f1) == ((rd_T23 x1 x5).f1)))) = true then (some false) else (moatref12_Same.l0 k x0 x1 (wrap64 (x5 + 1)))) else (none)) else (none)) else (some true)
def moatref12_Same.f (k : Nat) (l0 : List (S23)) (l1 : List (S23)) : Option (Bool) := if (l0.length : Int) = (l1.length : Int) then (moatref12_Same.l0 k l0 l1 0) else (some false)
theorem moatref12_Same.mono_l : ∀ k, (∀ y0 y1 y2, LeO (moatref12_Same.l0 k y0 y1 y2) (moatref12_Same.l0 (k + 1) y0 y1 y2))
  | 0 => fun _ _ _ r h => by simp [moatref12_Same.l0] at h
  | k + 1 => by
    have ih0 := moatref12_Same.mono_l k
    · intro y0 y1 y2
      unfold moatref12_Same.l0
      repeat' first
      | (with_reducible exact ih0 _ _ _)
      | (with_reducible exact LeO.refl _)
      | (with_reducible exact LeO.none _)
      | (with_reducible refine LeO.ite ?_ ?_)
      | (with_reducible refine LeO.bind ?_ (fun _ => ?_))
      | exact ih0 _ _ _
      | exact LeO.none _
      | refine LeO.ite ?_ ?_
      | refine LeO.bind ?_ (fun _ => ?_)
theorem moatref12_Same.mono : ∀ a0 a1 k, LeO (moatref12_Same.f k a0 a1) (moatref12_Same.f (k + 1) a0 a1) := by
  intro a0 a1 k
  have ih0 := moatref12_Same.mono_l k
  unfold moatref12_Same.f
  repeat' first
      | (with_reducible exact ih0 _ _ _)
      | (with_reducible exact LeO.refl _)
      | (with_reducible exact LeO.none _)
      | (with_reducible refine LeO.ite ?_ ?_)
      | (with_reducible refine LeO.bind ?_ (fun _ => ?_))
      | exact ih0 _ _ _
      | exact LeO.none _
      | refine LeO.ite ?_ ?_
      | refine LeO.bind ?_ (fun _ => ?_)
set_option maxHeartbeats 8000000 in
set_option maxRecDepth 100000 in
theorem moatref12_Same.calls (k : Nat) (A0 : Option Addr) (c0 : Nat) (l0 : List (S23)) (A1 : Option Addr) (c1 : Nat) (l1 : List (S23)) (r : Bool) (w : World) (hr0 : Kd.C k23 w A0 l0.length l0) (hc0 : l0.length ≤ c0) (hr1 : Kd.C k23 w A1 l1.length l1) (hc1 : l1.length ≤ c1) (h : moatref12_Same.f k l0 l1 = some r) :
    Calls Try.prog 27 #[.slice A0 l0.length c0, .slice A1 l1.length c1] w fun e w' => e = .returned (.bool r) ∧ Drawn0 w w' := by
  have hu23 := Try.underlying23
  have HR0 := Aside0.mk hr0
  have HC0 := Aside0.mk hc0
  clear hr0 hc0
  have HR1 := Aside0.mk hr1
  have HC1 := Aside0.mk hc1
  clear hr1 hc1
  have H : (if (l0.length : Int) = (l1.length : Int) then (moatref12_Same.l0 k l0 l1 0) else (some false)) = some r := h
  clear h
  by_cases c3 : (l0.length : Int) = (l1.length : Int)
  · rw [if_pos c3] at H
    have c3b0 : ((l0.length : Int) == (l1.length : Int)) = true := beq_iff_eq.mpr c3
    have c3b1 : ((l0.length : Int) != (l1.length : Int)) = false := bne_eq_false_iff_eq.mpr c3
    have c3b2 : (l0.length == l1.length) = true := by first | simpa using c3 | (simp at c3 ⊢; omega)
    clear c3
    have H' := Aside0.mk H
    clear H
    go_enter Try.func27, Try.ntmps27
    go_wp2
    repeat (go_quiet (fail); try go_wp2)
    go_loopg [5] k (fun kq v5 w' => ∃ (x5_1 : Int), v5 = .int .i64 x5_1 ∧ Aside0 (moatref12_Same.l0 kq l0 l1 x5_1 = some r) ∧ Aside0 (kq ≤ k) ∧ Drawn0 w w')
    case atStart => exact ⟨(0), (by first | rfl | (simp; done) | (simp [*]; done)), H', ⟨Nat.le_refl _⟩, by repeat (first | exact Drawn0.refl _ | apply Drawn0.step)⟩
    case round =>
      clear H'
      try clear c1
      try clear c2
      try clear p2
      try clear c3
      try clear c3b0
      try clear c3b1
      try clear c3b2
      obtain ⟨x5_1, rfl, HA, HK1, ⟨m1, rfl⟩⟩ := hrel
      cases gk with
      | zero => exact absurd HA.out (by simp [moatref12_Same.l0])
      | succ k1 =>
        have H := HA.out
        clear HA
        simp only [moatref12_Same.l0] at H
        by_cases c4 : x5_1 < (l0.length : Int)
        · rw [if_pos c4] at H
          have c4b0 : decide (x5_1 < (l0.length : Int)) = true := decide_eq_true c4
          clear c4
          by_cases c5 : 0 ≤ x5_1
          · rw [if_pos c5] at H
            have c5b0 : decide (0 ≤ x5_1) = true := decide_eq_true c5
            clear c5
            by_cases c6 : x5_1 < (l1.length : Int)
            · rw [if_pos c6] at H
              have c6b0 : decide (x5_1 < (l1.length : Int)) = true := decide_eq_true c6
              clear c6
              by_cases c7 : (!((((rd_T23 l0 x5_1).f0).toList) == (((rd_T23 l1 x5_1).f0).toList)) || (!(((rd_T23 l0 x5_1).f1) == ((rd_T23 l1 x5_1).f1)))) = true
              · rw [if_pos c7] at H
                have c7b0 : (!((((rd_T23 l0 x5_1).f0).toList) == (((rd_T23 l1 x5_1).f0).toList)) || (!(((rd_T23 l0 x5_1).f1) == ((rd_T23 l1 x5_1).f1)))) = true := c7
                clear c7
                obtain rfl := Option.some.inj H
                have p205 : 0 ≤ (x5_1 : Int) := of_decide_eq_true (by first | (with_reducible assumption) | assumption)
                have q205 : x5_1 < (l0.length : Int) := of_decide_eq_true (by first | (with_reducible assumption) | assumption)
                obtain ⟨ad205, e205, hx205_0, hx205_1⟩ := at_T23 HR0.out x5_1 p205 q205
                cases e205
                replace p205 := eq_true p205
                replace q205 := eq_true q205
                have p206 : 0 ≤ (x5_1 : Int) := of_decide_eq_true (by first | (with_reducible assumption) | assumption)
                have q206 : x5_1 < (l1.length : Int) := of_decide_eq_true (by first | (with_reducible assumption) | assumption)
                obtain ⟨ad206, e206, hx206_0, hx206_1⟩ := at_T23 HR1.out x5_1 p206 q206
                cases e206
                replace p206 := eq_true p206
                replace q206 := eq_true q206
                go_wp2
                repeat (go_quiet (fail); try go_wp2)
                go_ret
                exact ⟨by first | rfl | (simp; done) | (simp [*]; done), by repeat (first | exact Drawn0.refl _ | apply Drawn0.step)⟩
              · rw [if_neg c7] at H
                have c7b0 : (!((((rd_T23 l0 x5_1).f0).toList) == (((rd_T23 l1 x5_1).f0).toList)) || (!(((rd_T23 l0 x5_1).f1) == ((rd_T23 l1 x5_1).f1)))) = false := by simpa using c7
                clear c7
                have H' := Aside0.mk H
                clear H
                have p205 : 0 ≤ (x5_1 : Int) := of_decide_eq_true (by first | (with_reducible assumption) | assumption)
                have q205 : x5_1 < (l0.length : Int) := of_decide_eq_true (by first | (with_reducible assumption) | assumption)
                obtain ⟨ad205, e205, hx205_0, hx205_1⟩ := at_T23 HR0.out x5_1 p205 q205
                cases e205
                replace p205 := eq_true p205
                replace q205 := eq_true q205
                have p206 : 0 ≤ (x5_1 : Int) := of_decide_eq_true (by first | (with_reducible assumption) | assumption)
                have q206 : x5_1 < (l1.length : Int) := of_decide_eq_true (by first | (with_reducible assumption) | assumption)
                obtain ⟨ad206, e206, hx206_0, hx206_1⟩ := at_T23 HR1.out x5_1 p206 q206
                cases e206
                replace p206 := eq_true p206
                replace q206 := eq_true q206
                go_wp2
                repeat (go_quiet (fail); try go_wp2)
                go_roundg k1
                case measure => have := HK1.out; omega
                case rel => exact ⟨(wrap64 (x5_1 + 1)), (by first | rfl | (simp; done) | (simp [*]; done)), H', ⟨by have := HK1.out; omega⟩, by repeat (first | exact Drawn0.refl _ | apply Drawn0.step)⟩
            · rw [if_neg c6] at H
              exact absurd H (by simp)
          · rw [if_neg c5] at H
            exact absurd H (by simp)
        · rw [if_neg c4] at H
          have c4b0 : decide (x5_1 < (l0.length : Int)) = false := decide_eq_false c4
          clear c4
          obtain rfl := Option.some.inj H
          go_wp2
          repeat (go_quiet (fail); try go_wp2)
          go_ret
          exact ⟨by first | rfl | (simp; done) | (simp [*]; done), by repeat (first | exact Drawn0.refl _ | apply Drawn0.step)⟩
  · rw [if_neg c3] at H
    have c3b0 : ((l0.length : Int) == (l1.length : Int)) = false := beq_eq_false_iff_ne.mpr c3
    have c3b1 : ((l0.length : Int) != (l1.length : Int)) = true := bne_iff_ne.mpr c3
    have c3b2 : (l0.length == l1.length) = false := by first | simpa using c3 | (simp at c3 ⊢; omega)
    obtain rfl := Option.some.inj H
    go_enter Try.func27, Try.ntmps27
    go_wp2
    repeat (go_quiet (fail); try go_wp2)
    go_ret
    exact ⟨by first | rfl | (simp; done) | (simp [*]; done), by repeat (first | exact Drawn0.refl _ | apply Drawn0.step)⟩

end Go.Proofs.Ytinfjmdcmfpdiaa.D

/- Contracts of functions that the statements reach: each call's answer as a plain Lean function. Printed by a program of this session (over the kit's print) out of the translation; Lean checks it. -/
namespace Go.Proofs.Ytinfjmdcmfpdiaa.D
open Go.RowKit Go.Proofs.YtinfjmdcmfpdiaaW.PrintWords Go.Proofs.YtinfjmdcmfpdiaaW.PrintLast Go.Proofs.YtinfjmdcmfpdiaaW.PrintMore
set_option linter.unusedVariables false
set_option linter.unusedSimpArgs false

end Go.Proofs.Ytinfjmdcmfpdiaa.D

/- A directory's bytes as a list of slots: the plain model of entry, and what entry.Take answers in it. No walk. -/
namespace Go.Proofs.Ytinfjmdcmfpdiaa.Md
open Go.RowKit Go.Proofs.Ytinfjmdcmfpdiaa.Rt Go.Proofs.YtinfjmdcmfpdiaaW.PrintWords Go.Proofs.YtinfjmdcmfpdiaaW.PrintLast Go.Proofs.YtinfjmdcmfpdiaaW.PrintMore

/-- Bytes: numbers from 0 to 255. -/
def Bytes (l : List Int) : Prop := ∀ x ∈ l, 0 ≤ x ∧ x ≤ 255
theorem Bytes.nil : Bytes [] := fun x hx => by cases hx
theorem Bytes.append {a b : List Int} (ha : Bytes a) (hb : Bytes b) : Bytes (a ++ b) := fun x hx => (List.mem_append.1 hx).elim (ha x) (hb x)
theorem Bytes.drop {a : List Int} (ha : Bytes a) (n : Nat) : Bytes (a.drop n) := fun x hx => ha x (List.mem_of_mem_drop hx)
theorem Bytes.take {a : List Int} (ha : Bytes a) (n : Nat) : Bytes (a.take n) := fun x hx => ha x (List.mem_of_mem_take hx)
theorem Bytes.zeros (n : Nat) : Bytes (List.replicate n 0) := fun x hx => by rw [List.eq_of_mem_replicate hx]; omega
theorem Bytes.rd {a : List Int} (ha : Bytes a) (i : Int) : 0 ≤ rd a i ∧ rd a i ≤ 255 := by
  show 0 ≤ a.getD i.toNat 0 ∧ a.getD i.toNat 0 ≤ 255
  rw [List.getD_eq_getElem?_getD]
  cases h : a[i.toNat]? with
  | none => simp
  | some v => exact ha v (List.mem_of_getElem? h)
theorem Bytes.of (s : ByteArray) : Bytes (s.data.toList.map fun b => (b.toNat : Int)) := by
  intro x hx
  obtain ⟨b, _, rfl⟩ := List.mem_map.1 hx
  have := b.toNat_lt
  omega

theorem str_data (a : List Int) : (strOfNums a).data.toList = a.map fun n => UInt8.ofNat n.toNat := rfl
theorem ba_ext {a b : ByteArray} (h : a.data.toList = b.data.toList) : a = b := by
  cases a; cases b
  simp only at h
  rw [Array.toList_inj] at h
  rw [h]
theorem map_back {a : List Int} (ha : Bytes a) : (a.map fun n => UInt8.ofNat n.toNat).map (fun b => (b.toNat : Int)) = a := by
  rw [List.map_map]
  conv => rhs; rw [← List.map_id a]
  apply List.map_congr_left
  intro x hx
  have := ha x hx
  show ((UInt8.ofNat x.toNat).toNat : Int) = x
  rw [UInt8.toNat_ofNat']
  omega
theorem str_back {a : List Int} (ha : Bytes a) : (strOfNums a).data.toList.map (fun b => (b.toNat : Int)) = a := by rw [str_data, map_back ha]
theorem str_inj {a b : List Int} (ha : Bytes a) (hb : Bytes b) : (strOfNums a).toList = (strOfNums b).toList ↔ a = b := by
  rw [Lib.toList_data, Lib.toList_data]
  constructor
  · intro h
    rw [← str_back ha, ← str_back hb, h]
  · intro h; rw [h]
theorem str_of (s : ByteArray) : strOfNums (s.data.toList.map fun b => (b.toNat : Int)) = s := by
  apply ba_ext
  rw [str_data, List.map_map]
  conv => rhs; rw [← List.map_id s.data.toList]
  apply List.map_congr_left
  intro b _
  show UInt8.ofNat ((b.toNat : Int).toNat) = b
  simp

theorem bitsOf_range (l : List UInt8) : 0 ≤ La.bitsOf l ∧ La.bitsOf l ≤ 255 := by unfold La.bitsOf; omega
theorem layL_bytes (n : ByteArray) (i : Int) (hn : n.size ≤ 13) (h0 : 0 ≤ i) (h1 : i < 64) : Bytes (La.layL n i) := by
  unfold La.layL
  refine Bytes.append (Bytes.append ?_ (Bytes.of n)) (Bytes.zeros _)
  intro x hx
  have := bitsOf_range n.data.toList
  simp only [List.mem_cons, List.not_mem_nil, or_false] at hx
  rcases hx with rfl | rfl | rfl <;> omega
theorem right_size {n : ByteArray} (hr : rightB n.data.toList = true) : 1 ≤ n.size ∧ n.size ≤ 13 := by
  simp only [rightB, Bool.and_eq_true, decide_eq_true_eq] at hr
  have h1 := hr.1.1.1.2
  have h2 := hr.1.1.1.1
  rw [Lib.size_eq]
  refine ⟨?_, h1⟩
  cases hl : n.data.toList with
  | nil => rw [hl] at h2; simp at h2
  | cons a b => simp

/-- Sixteen zeros. -/
def zeros : List Int := List.replicate 16 0
/-- The name in an entry's bytes. -/
def nameOf (b : List Int) : ByteArray := strOfNums ((b.take (3 + rd b 0).toNat).drop 3)
/-- An entry's bytes: none: they are no entry; some none: free. -/
def takeO (b : List Int) : Option (Option (ByteArray × Int)) :=
  if b = zeros then some none
  else if b.length = 16 ∧ rd b 0 ≤ 13 ∧ La.layA (nameOf b) (rd b 2) = (b, 0) then some (some (nameOf b, rd b 2)) else none
def takeA (b : List Int) : ByteArray × Int × Bool × Int :=
  match takeO b with
  | none => (⟨#[]⟩, 0, false, 121)
  | some none => (⟨#[]⟩, 0, false, 0)
  | some (some (n, i)) => (n, i, true, 0)

theorem w_small {x : Int} (h0 : 0 ≤ x) (h1 : x ≤ 1000) : wrap64 x = x := by unfold wrap64; omega
theorem layA_ok {n : ByteArray} {i : Int} {b : List Int} (h : La.layA n i = (b, 0)) : rightB n.data.toList = true ∧ 0 ≤ i ∧ i < 64 ∧ b = La.layL n i := by
  unfold La.layA at h
  split at h
  · rename_i hr
    split at h
    · rename_i hi
      injection h with h1 h2
      exact ⟨hr, hi.1, hi.2, h1.symm⟩
    · injection h with h1 h2; cases h2
  · injection h with h1 h2; cases h2
theorem layA_right {n : ByteArray} {i : Int} (hr : rightB n.data.toList = true) (h0 : 0 ≤ i) (h1 : i < 64) : La.layA n i = (La.layL n i, 0) := by
  unfold La.layA
  rw [if_pos hr, if_pos ⟨h0, h1⟩]
theorem layA_bytes (n : ByteArray) (i : Int) : Bytes (La.layA n i).1 := by
  unfold La.layA
  split
  · rename_i hr
    split
    · rename_i hi; exact layL_bytes n i (right_size hr).2 hi.1 hi.2
    · exact Bytes.nil
  · exact Bytes.nil

theorem rd_layL0 (n : ByteArray) (i : Int) : rd (La.layL n i) 0 = n.size := rfl
theorem rd_layL1 (n : ByteArray) (i : Int) : rd (La.layL n i) 1 = La.bitsOf n.data.toList := rfl
theorem rd_layL2 (n : ByteArray) (i : Int) : rd (La.layL n i) 2 = i := rfl
theorem layL_mid (n : ByteArray) (i : Int) : ((La.layL n i).take (3 + n.size)).drop 3 = n.data.toList.map fun b => (b.toNat : Int) := by
  have hl : (n.data.toList.map fun b => (b.toNat : Int)).length = n.size := by rw [List.length_map, ← Lib.size_eq]
  rw [← List.take_drop]
  unfold La.layL
  rw [List.append_assoc]
  show List.take n.size ((n.data.toList.map fun b => (b.toNat : Int)) ++ List.replicate (13 - n.size) 0) = _
  rw [List.take_append_of_le_length (by omega), List.take_of_length_le (by omega)]
theorem name_layL (n : ByteArray) (i : Int) : nameOf (La.layL n i) = n := by
  unfold nameOf
  rw [rd_layL0]
  have h : (3 + (n.size : Int)).toNat = 3 + n.size := by omega
  rw [h, layL_mid, str_of]
theorem layL_ne (n : ByteArray) (i : Int) (hn : 1 ≤ n.size) : La.layL n i ≠ zeros := by
  intro h
  have h1 : rd (La.layL n i) 0 = rd zeros 0 := by rw [h]
  rw [rd_layL0] at h1
  have h2 : rd zeros 0 = 0 := rfl
  omega
theorem takeO_zeros : takeO zeros = some none := by unfold takeO; rw [if_pos rfl]
theorem takeO_lay {n : ByteArray} {i : Int} (hr : rightB n.data.toList = true) (h0 : 0 ≤ i) (h1 : i < 64) : takeO (La.layL n i) = some (some (n, i)) := by
  have hn := right_size hr
  unfold takeO
  rw [if_neg (layL_ne n i hn.1), name_layL, rd_layL2, rd_layL0, if_pos ⟨La.layL_len n i hn.2, by omega, layA_right hr h0 h1⟩]
theorem takeO_none {b : List Int} (h : takeO b = some none) : b = zeros := by
  unfold takeO at h
  split at h
  · assumption
  · split at h <;> simp at h
theorem takeO_some {b : List Int} {n : ByteArray} {i : Int} (h : takeO b = some (some (n, i))) : b = La.layL n i ∧ rightB n.data.toList = true ∧ 0 ≤ i ∧ i < 64 := by
  unfold takeO at h
  split at h
  · simp at h
  · split at h
    · rename_i hc
      simp only [Option.some.injEq, Prod.mk.injEq] at h
      obtain ⟨rfl, rfl⟩ := h
      obtain ⟨h1, h2, h3, h4⟩ := layA_ok hc.2.2
      exact ⟨h4, h1, h2, h3⟩
    · simp at h

/-- What entry.Take answers. -/
theorem take_eq (k : Nat) {b : List Int} (hb : Bytes b) (hk : 1 ≤ k) : D.entry_Take.f k b = some (takeA b) := by
  obtain ⟨k, rfl⟩ : ∃ m, k = m + 1 := ⟨k - 1, by omega⟩
  have hz : ∀ c : List Int, Bytes c → ((strOfNums c).toList == (strOfNums b).toList) = decide (c = b) := fun c hc => by
    rw [Bool.eq_iff_iff, beq_iff_eq, decide_eq_true_eq]; exact str_inj hc hb
  have j : ∀ x, D.entry_Take.j0 (k + 1) b x = if x = true then some ((⟨#[]⟩ : ByteArray), 0, false, 121) else D.entry_Take.j0 (k + 1) b false := fun x => by
    cases x
    · rfl
    · rw [if_pos rfl]; simp only [D.entry_Take.j0]; rfl
  unfold D.entry_Take.f P.entry_free.f
  rw [if_pos (by decide), Option.bind_some]
  by_cases h0 : b = zeros
  · subst h0
    rw [if_pos (by rw [beq_iff_eq]; rfl)]
    unfold takeA; rw [takeO_zeros]
  · have e0 : ((strOfNums b).toList == (strOfNums (List.replicate 16 0)).toList) = false := by
      rw [beq_eq_false_iff_ne]
      intro h
      exact h0 ((str_inj hb (Bytes.zeros 16)).1 h)
    rw [e0, if_neg (by decide)]
    have r0 := hb.rd 0
    have r2 := hb.rd 2
    by_cases h1 : b.length = 16
    · rw [if_pos (by omega), if_pos (by omega), w_small (by omega) (by omega), j]
      by_cases h2 : rd b 0 ≤ 13
      · have w3 : wrap64 (3 + wrap64 (rd b 0)) = 3 + rd b 0 := by rw [w_small (x := rd b 0) (by omega) (by omega), w_small (by omega) (by omega)]
        rw [if_neg (by rw [decide_eq_true_eq]; omega)]
        simp only [D.entry_Take.j0]
        rw [if_neg (by decide), if_pos (by omega), w3, if_pos (by omega), if_pos (by omega), if_pos (by omega), w_small (x := rd b 2) (by omega) (by omega)]
        show ((some (La.layA (nameOf b) (rd b 2))).bind _) = _
        rw [Option.bind_some]
        unfold takeA takeO
        rw [if_neg h0]
        have hl := layA_bytes (nameOf b) (rd b 2)
        by_cases h3 : (La.layA (nameOf b) (rd b 2)).2 = 0
        · rw [if_pos h3]
          by_cases h4 : (La.layA (nameOf b) (rd b 2)).1 = b
          · rw [if_pos ((str_inj hl hb).2 h4), if_pos ⟨h1, h2, Prod.ext h4 h3⟩]
            rfl
          · rw [if_neg (fun h => h4 ((str_inj hl hb).1 h)), if_neg (fun h => h4 (by rw [h.2.2]))]
        · rw [if_neg h3, if_neg (fun h => h3 (by rw [h.2.2]))]
      · rw [if_pos (by rw [decide_eq_true_eq]; omega)]
        unfold takeA takeO
        rw [if_neg h0, if_neg (fun h => h2 h.2.1)]
    · rw [if_neg (by omega), j, if_pos rfl]
      unfold takeA takeO
      rw [if_neg h0, if_neg (fun h => h1 h.1)]
theorem rtake_eq (k : Nat) {b : List Int} (hb : Bytes b) (hk : 1 ≤ k) : D.moatref12_Take.f k b = some (takeA b) := by
  obtain ⟨k, rfl⟩ : ∃ m, k = m + 1 := ⟨k - 1, by omega⟩
  have j : ∀ x, D.moatref12_Take.j0 (k + 1) b x = if x = true then some ((⟨#[]⟩ : ByteArray), 0, false, 121) else D.moatref12_Take.j0 (k + 1) b false := fun x => by
    cases x
    · rfl
    · rw [if_pos rfl]; simp only [D.moatref12_Take.j0]; rfl
  unfold D.moatref12_Take.f
  rw [if_pos (by decide)]
  by_cases h0 : b = zeros
  · subst h0
    rw [if_pos (by rfl)]
    unfold takeA; rw [takeO_zeros]
  · rw [if_neg (fun h => h0 ((str_inj hb (Bytes.zeros 16)).1 h))]
    have r0 := hb.rd 0
    have r2 := hb.rd 2
    by_cases h1 : b.length = 16
    · rw [if_pos (by omega), if_pos (by omega), j]
      by_cases h2 : rd b 0 ≤ 13
      · have w3 : wrap64 (3 + wrap64 (rd b 0)) = 3 + rd b 0 := by rw [w_small (x := rd b 0) (by omega) (by omega), w_small (by omega) (by omega)]
        rw [if_neg (by rw [decide_eq_true_eq]; omega)]
        simp only [D.moatref12_Take.j0]
        rw [if_neg (by decide), if_pos (by omega), w3, if_pos (by omega), if_pos (by omega), if_pos (by omega), w_small (x := rd b 2) (by omega) (by omega)]
        show ((some (La.layA (nameOf b) (rd b 2))).bind _) = _
        rw [Option.bind_some]
        unfold takeA takeO
        rw [if_neg h0]
        have hl := layA_bytes (nameOf b) (rd b 2)
        by_cases h3 : (La.layA (nameOf b) (rd b 2)).2 = 0
        · rw [if_pos h3]
          by_cases h4 : (La.layA (nameOf b) (rd b 2)).1 = b
          · rw [if_pos ((str_inj hl hb).2 h4), if_pos ⟨h1, h2, Prod.ext h4 h3⟩]
            rfl
          · rw [if_neg (fun h => h4 ((str_inj hl hb).1 h)), if_neg (fun h => h4 (by rw [h.2.2]))]
        · rw [if_neg h3, if_neg (fun h => h3 (by rw [h.2.2]))]
      · rw [if_pos (by rw [decide_eq_true_eq]; omega)]
        unfold takeA takeO
        rw [if_neg h0, if_neg (fun h => h2 h.2.1)]
    · rw [if_neg (by omega), j, if_pos rfl]
      unfold takeA takeO
      rw [if_neg h0, if_neg (fun h => h1 h.1)]
end Go.Proofs.Ytinfjmdcmfpdiaa.Md

/- A directory as a row of slots: bytes to slots and back. No walk. -/
namespace Go.Proofs.Ytinfjmdcmfpdiaa.Md
open Go.RowKit Go.Proofs.Ytinfjmdcmfpdiaa.Rt Go.Proofs.YtinfjmdcmfpdiaaW.PrintWords Go.Proofs.YtinfjmdcmfpdiaaW.PrintLast Go.Proofs.YtinfjmdcmfpdiaaW.PrintMore

/-- A slot: an entry, or free. -/
abbrev Sl := Option (ByteArray × Int)
def okE (e : ByteArray × Int) : Prop := rightB e.1.data.toList = true ∧ 0 ≤ e.2 ∧ e.2 < 64
def slotB : Sl → List Int
  | none => zeros
  | some e => La.layL e.1 e.2
def bytesS (s : List Sl) : List Int := s.flatMap slotB
def names (s : List Sl) : List ByteArray := s.filterMap (Option.map Prod.fst)
def AllOk (s : List Sl) : Prop := ∀ e, some e ∈ s → okE e
/-- A directory. -/
structure Good (s : List Sl) : Prop where
  ok : AllOk s
  apart : (names s).Nodup
  room : s.length ≤ 240

theorem AllOk.nil : AllOk [] := fun e h => by cases h
theorem AllOk.append {s t : List Sl} (hs : AllOk s) (ht : AllOk t) : AllOk (s ++ t) := fun e h => (List.mem_append.1 h).elim (hs e) (ht e)
theorem AllOk.none : AllOk [none] := fun e h => by simp at h
theorem AllOk.one {e : ByteArray × Int} (h : okE e) : AllOk [some e] := fun e' h' => by
  simp only [List.mem_singleton, Option.some.injEq] at h'
  rw [h']; exact h
theorem AllOk.left {s t : List Sl} (h : AllOk (s ++ t)) : AllOk s := fun e he => h e (List.mem_append.2 (.inl he))
theorem AllOk.right {s t : List Sl} (h : AllOk (s ++ t)) : AllOk t := fun e he => h e (List.mem_append.2 (.inr he))
theorem AllOk.tail {o : Sl} {s : List Sl} (h : AllOk (o :: s)) : AllOk s := fun e he => h e (List.mem_cons_of_mem _ he)
theorem AllOk.head {e : ByteArray × Int} {s : List Sl} (h : AllOk (some e :: s)) : okE e := h e (by simp)

theorem okE.size {e : ByteArray × Int} (h : okE e) : 1 ≤ e.1.size ∧ e.1.size ≤ 13 := right_size h.1
theorem slotB_len {s : List Sl} (hs : AllOk s) {o : Sl} (ho : o ∈ s) : (slotB o).length = 16 := by
  cases o with
  | none => rfl
  | some e => exact La.layL_len e.1 e.2 (hs e ho).size.2
theorem bytesS_nil : bytesS [] = [] := rfl
theorem bytesS_cons (o : Sl) (s : List Sl) : bytesS (o :: s) = slotB o ++ bytesS s := by simp [bytesS]
theorem bytesS_append (s t : List Sl) : bytesS (s ++ t) = bytesS s ++ bytesS t := by simp [bytesS]
theorem bytesS_len {s : List Sl} (hs : AllOk s) : (bytesS s).length = 16 * s.length := by
  induction s with
  | nil => rfl
  | cons o s ih =>
    rw [bytesS_cons, List.length_append, slotB_len hs (by simp), ih hs.tail, List.length_cons]
    omega
theorem slotB_bytes {s : List Sl} (hs : AllOk s) {o : Sl} (ho : o ∈ s) : Bytes (slotB o) := by
  cases o with
  | none => exact Bytes.zeros 16
  | some e => exact layL_bytes e.1 e.2 (hs e ho).size.2 (hs e ho).2.1 (hs e ho).2.2
theorem bytesS_bytes {s : List Sl} (hs : AllOk s) : Bytes (bytesS s) := by
  induction s with
  | nil => exact Bytes.nil
  | cons o s ih => rw [bytesS_cons]; exact Bytes.append (slotB_bytes hs (by simp)) (ih hs.tail)
theorem takeO_slotB {s : List Sl} (hs : AllOk s) {o : Sl} (ho : o ∈ s) : takeO (slotB o) = some o := by
  cases o with
  | none => exact takeO_zeros
  | some e => exact takeO_lay (hs e ho).1 (hs e ho).2.1 (hs e ho).2.2

/-- The i-th sixteen bytes. -/
def entL (l : List Int) (i : Nat) : List Int := (l.drop (16 * i)).take 16
theorem entL_len (l : List Int) (i : Nat) (h : 16 * (i + 1) ≤ l.length) : (entL l i).length = 16 := by unfold entL; rw [List.length_take, List.length_drop]; omega
theorem entL_split {s : List Sl} (hs : AllOk s) (o : Sl) (t : List Sl) (h : (slotB o).length = 16) : entL (bytesS (s ++ o :: t)) s.length = slotB o := by
  unfold entL
  rw [bytesS_append, List.drop_append_of_le_length (by rw [bytesS_len hs]; omega), List.drop_of_length_le (by rw [bytesS_len hs]; omega), List.nil_append, bytesS_cons, List.take_append_of_le_length (by omega), List.take_of_length_le (by omega)]
theorem entL_bytes {s : List Sl} (hs : AllOk s) (i : Nat) (h : i < s.length) : entL (bytesS s) i = slotB s[i] := by
  have e : s = s.take i ++ s[i] :: s.drop (i + 1) := by rw [← List.drop_eq_getElem_cons h, List.take_append_drop]
  have hl : (s.take i).length = i := by rw [List.length_take]; omega
  have h1 : AllOk (s.take i) := fun e' he => hs e' (List.mem_of_mem_take he)
  have := entL_split h1 s[i] (s.drop (i + 1)) (slotB_len hs (List.getElem_mem h))
  rw [hl, ← e] at this
  exact this

def hasN (l : List ByteArray) (n : ByteArray) : Bool := l.any fun m => decide (m = n)
theorem hasN_iff (l : List ByteArray) (n : ByteArray) : hasN l n = true ↔ n ∈ l := by simp [hasN]
instance decMem (n : ByteArray) (l : List ByteArray) : Decidable (n ∈ l) := decidable_of_iff (hasN l n = true) (hasN_iff l n)
/-- The slots that entry.All finds, from the i-th on. -/
def slotsGo (l : List Int) : Nat → Nat → List Sl → Option (List Sl)
  | 0, _, acc => some acc
  | d + 1, i, acc =>
    match takeO (entL l i) with
    | none => none
    | some none => slotsGo l d (i + 1) (acc ++ [none])
    | some (some e) => if e.1 ∈ names acc then none else slotsGo l d (i + 1) (acc ++ [some e])
def dirO (l : List Int) : Option (List Sl) := if l.length % 16 = 0 ∧ l.length ≤ 3840 then slotsGo l (l.length / 16) 0 [] else none

theorem names_append (s t : List Sl) : names (s ++ t) = names s ++ names t := by simp [names]
theorem names_none : names [none] = [] := rfl
theorem names_some (e : ByteArray × Int) : names [some e] = [e.1] := rfl
theorem names_mem {s : List Sl} {n : ByteArray} : n ∈ names s ↔ ∃ i, some (n, i) ∈ s := by
  unfold names
  rw [List.mem_filterMap]
  constructor
  · rintro ⟨o, ho, h⟩
    cases o with
    | none => simp at h
    | some e => simp at h; subst h; exact ⟨e.2, ho⟩
  · rintro ⟨i, h⟩; exact ⟨_, h, rfl⟩

theorem take_next (l : List Int) (i : Nat) : l.take (16 * (i + 1)) = l.take (16 * i) ++ entL l i := by
  unfold entL
  rw [← List.take_add]; rfl
theorem go_good (l : List Int) (d : Nat) : ∀ (i : Nat) (acc s : List Sl), l.length = 16 * (i + d) → acc.length = i → l.take (16 * i) = bytesS acc → AllOk acc → (names acc).Nodup → slotsGo l d i acc = some s →
    l = bytesS s ∧ AllOk s ∧ (names s).Nodup ∧ s.length = i + d := by
  induction d with
  | zero =>
    intro i acc s hl ha ht ho hn h
    simp only [slotsGo, Option.some.injEq] at h
    subst h
    refine ⟨?_, ho, hn, by omega⟩
    rw [← ht, List.take_of_length_le (by omega)]
  | succ d ih =>
    intro i acc s hl ha ht ho hn h
    simp only [slotsGo] at h
    split at h
    · cases h
    · rename_i hk
      obtain ⟨h1, h2, h3, h4⟩ := ih (i + 1) _ s (by omega) (by simp; omega) (by rw [take_next, ht, takeO_none hk, bytesS_append]; rfl) (ho.append .none) (by rw [names_append, names_none, List.append_nil]; exact hn) h
      exact ⟨h1, h2, h3, by omega⟩
    · rename_i e hk
      split at h
      · cases h
      · rename_i hm
        obtain ⟨n, ino⟩ := e
        obtain ⟨k1, k2, k3, k4⟩ := takeO_some hk
        obtain ⟨h1, h2, h3, h4⟩ := ih (i + 1) _ s (by omega) (by simp; omega) (by rw [take_next, ht, k1, bytesS_append]; simp [bytesS, slotB]) (ho.append (.one ⟨k2, k3, k4⟩))
          (by rw [names_append, names_some, List.nodup_append]; exact ⟨hn, by simp, by intro a ha b hb; simp at hb; subst hb; rintro rfl; exact hm ha⟩) h
        exact ⟨h1, h2, h3, by omega⟩
theorem dir_good {l : List Int} {s : List Sl} (h : dirO l = some s) : l = bytesS s ∧ Good s := by
  unfold dirO at h
  split at h
  · rename_i hc
    obtain ⟨h1, h2, h3, h4⟩ := go_good l (l.length / 16) 0 [] s (by omega) rfl (by simp [bytesS]) .nil (by simp [names]) h
    exact ⟨h1, h2, h3, by omega⟩
  · cases h
theorem good_go {s : List Sl} (hs : AllOk s) (hn : (names s).Nodup) (d : Nat) : ∀ i, i + d = s.length → slotsGo (bytesS s) d i (s.take i) = some s := by
  induction d with
  | zero =>
    intro i h
    simp only [slotsGo]
    rw [List.take_of_length_le (by omega)]
  | succ d ih =>
    intro i h
    have hi : i < s.length := by omega
    simp only [slotsGo]
    rw [entL_bytes hs i hi, takeO_slotB hs (List.getElem_mem hi)]
    have e : s.take i ++ [s[i]] = s.take (i + 1) := by rw [List.take_succ_eq_append_getElem hi]
    cases hsi : s[i] with
    | none =>
      rw [hsi] at e
      simp only
      rw [e]; exact ih (i + 1) (by omega)
    | some p =>
      rw [hsi] at e
      simp only
      rw [if_neg, e]
      · exact ih (i + 1) (by omega)
      · intro hm
        have e2 : s = s.take i ++ some p :: s.drop (i + 1) := by
          have := List.take_append_drop i s
          rw [List.drop_eq_getElem_cons hi, hsi] at this
          exact this.symm
        rw [e2, names_append, List.nodup_append] at hn
        exact hn.2.2 p.1 hm p.1 (by simp [names]) rfl
theorem good_dir {s : List Sl} (h : Good s) : dirO (bytesS s) = some s := by
  unfold dirO
  have hl := bytesS_len h.ok
  have := h.room
  rw [if_pos (by omega)]
  have e : (bytesS s).length / 16 = s.length := by omega
  rw [e]
  exact good_go h.ok h.apart s.length 0 (by omega)
end Go.Proofs.Ytinfjmdcmfpdiaa.Md

/- entry.at: the how-many-eth sixteen bytes, as a cut of the row. -/
namespace Go.Proofs.Ytinfjmdcmfpdiaa.At
open Go.RowKit Go.Proofs.YtinfjmdcmfpdiaaW.PrintWords Go.Proofs.YtinfjmdcmfpdiaaW.PrintLast Go.Proofs.YtinfjmdcmfpdiaaW.PrintMore
set_option linter.unusedVariables false
set_option linter.unusedSimpArgs false

set_option maxHeartbeats 1000000 in
set_option maxRecDepth 100000 in
theorem at_any (ad : Addr) (n c i : Nat) (hi : (i + 1) * 16 ≤ n) (hc : n ≤ c) (hn : n ≤ 100000) (w : World) :
    Calls Try.prog 36 #[.slice (some ad) n c, .int .i64 i] w fun e w' => e = .returned (.slice (some (ad.add (i * 16))) 16 (c - i * 16)) ∧ w' = w := by
  obtain ⟨x, hx⟩ : ∃ x : Nat, x = i * 16 := ⟨_, rfl⟩
  obtain ⟨y, hy⟩ : ∃ y : Nat, y = (i + 1) * 16 := ⟨_, rfl⟩
  have e1 : (i : Int) * 16 = (x : Int) := by omega
  have e2 : ((i : Int) + 1) * 16 = (y : Int) := by omega
  have b1 : 0 ≤ (x : Int) := by omega
  have b2 : (x : Int) ≤ (y : Int) := by omega
  have b3 : (y : Int) ≤ (c : Int) := by omega
  have b4 : x ≤ y := by omega
  have b5 : y ≤ c := by omega
  rw [← hx]
  have hxy : Hid (y - x = 16) := Lib.hid (by omega)
  replace hx := Lib.hid hx
  clear hy
  go_enter Try.func36, Try.ntmps36
  go_wp2_with fail
  go_ret
  rw [hxy.out]
  exact ⟨rfl, rfl⟩
end Go.Proofs.Ytinfjmdcmfpdiaa.At

/- Words for entry.All's walk: a set of names kept as map[string]bool; entry.at and entry.Take at the i-th sixteen bytes. -/
namespace Go.Proofs.Ytinfjmdcmfpdiaa.Al
open Go.RowKit Go.Maps Go.Proofs.Ytinfjmdcmfpdiaa.Rt Go.Proofs.Ytinfjmdcmfpdiaa.Md Go.Proofs.YtinfjmdcmfpdiaaW.PrintWords Go.Proofs.YtinfjmdcmfpdiaaW.PrintLast Go.Proofs.YtinfjmdcmfpdiaaW.PrintMore
set_option linter.unusedVariables false
set_option linter.unusedSimpArgs false

/-- The set as the map reads. -/
def putN (m : DataW Unit) (n : ByteArray) : DataW Unit := m.put (.string n.data.toList) (.lit (.bool true))
def mapN (l : List ByteArray) : DataW Unit := l.foldl putN (.map [])
theorem mapN_snoc (l : List ByteArray) (n : ByteArray) : mapN (l ++ [n]) = (mapN l).put (.string n.data.toList) (.lit (.bool true)) := by simp [mapN, putN, List.foldl_append]
theorem ba_inj {a b : ByteArray} (h : a.data.toList = b.data.toList) : a = b := ba_ext h
theorem fold_at (n : ByteArray) (z : DataW Unit) : ∀ (l : List ByteArray) (D : DataW Unit), IsMap D → (l.foldl putN D).atKey (.string n.data.toList) z = if hasN l n = true then .lit (.bool true) else D.atKey (.string n.data.toList) z := by
  intro l
  induction l with
  | nil => intro D hD; simp [hasN]
  | cons x r ih =>
    intro D hD
    rw [List.foldl_cons, ih (putN D x) (hD.put _ _)]
    by_cases hr : hasN r n = true
    · rw [if_pos hr, if_pos (by unfold hasN at hr ⊢; rw [List.any_cons, hr, Bool.or_true])]
    · rw [if_neg hr]
      by_cases hx : x = n
      · subst hx
        rw [if_pos (by simp [hasN])]
        exact atKey_put_same hD (by simp [WideAt.IsKeyLit]) _ _
      · rw [if_neg (by unfold hasN at hr ⊢; rw [List.any_cons, Bool.or_eq_true]; rintro (h | h); exact hx (of_decide_eq_true h); exact hr h)]
        exact atKey_put_other (fun h => hx (ba_inj (by injection h with h; exact h.symm))) _ _
theorem mapN_at (l : List ByteArray) (n : ByteArray) : (mapN l).atKey (.string n.data.toList) (.lit (.bool false)) = .lit (.bool (hasN l n)) := by
  unfold mapN
  rw [fold_at n _ l _ isMap_empty]
  cases h : hasN l n
  · rfl
  · rfl

theorem bool_inv {P : Program} {e : TypeId} (he : P.underlying e = some .bool) {v : Value} {z : DataW Unit × List MemPlace} (h : plainElem P e v = some z) : ∃ x, v = .bool x ∧ z = (.lit (.bool x), []) := by
  unfold plainElem at h
  rw [he] at h
  cases v <;> simp at h
  exact ⟨_, rfl, h.symm⟩
/-- 'had[n]', had a set of names. -/
theorem set_run {P : Program} {w : World} {t k e : TypeId} (hk : P.underlying k = some .string) (ht : P.underlying t = some (.map k e)) (he : P.underlying e = some .bool) (hz : (zeroValue e).run P w = .ok (.bool false) w) {b m : Nat} {l : List ByteArray}
    (hown : w.ownsMap P k (plainElem P e) b m (mapN l)) {s : ByteArray} (hs : s.size ≤ maxLen) {r : Bool} (hr : hasN l s = r) :
    (Instr.lookup t (.map (some b)) (.string s) false).run P w = .ok (.bool r) w := by
  obtain ⟨v, ps, hrun, hv⟩ := hown.lookup (Maps.string_keyed hk) ht hz (plainElem_bool he false) (WideMaps.keyOf_string_mk hk hs)
  obtain ⟨c, rfl, hc⟩ := bool_inv he hv
  rw [mapN_at, hr] at hc
  simp only [Prod.mk.injEq, DataW.lit.injEq, Lit.bool.injEq] at hc
  obtain ⟨rfl, _⟩ := hc
  exact hrun
theorem zeroB (w : World) : (zeroValue 4).run Try.prog w = .ok (.bool false) w := by kernel_rfl

/-- The i-th sixteen bytes of a row that is read. -/
theorem C_ent {w : World} {ad : Addr} {l : List Int} {i c : Nat} (h : Kd.C (Kd.int .u8) w (some ad) l.length l) (hi : (i + 1) * 16 ≤ l.length) (hc : l.length ≤ c) :
    Kd.C (Kd.int .u8) w (some (ad.add (i * 16))) (entL l i).length (entL l i) := by
  have h2 := Kd.C_mid (lo := 16 * i) (hi := 16 * i + 16) (c := c) h (by omega) (by omega) hc
  rw [if_neg (by omega)] at h2
  have e : (l.take (16 * i + 16)).drop (16 * i) = entL l i := by
    unfold entL
    rw [← List.take_drop]
  rw [e] at h2
  have e2 : (some ad).map (fun x => x.add (16 * i * (Kd.int .u8).sz)) = some (ad.add (i * 16)) := by
    show some (ad.add (16 * i * 1)) = _
    congr 2; omega
  rw [e2] at h2
  exact h2
theorem take_any (w : World) (ad : Addr) (l : List Int) (i c c' : Nat) (hb : Bytes l) (h : Kd.C (Kd.int .u8) w (some ad) l.length l) (hi : (i + 1) * 16 ≤ l.length) (hc : l.length ≤ c) (hc' : 16 ≤ c') (r1 : ByteArray) (r2 : Int) (r3 : Bool) (r4 : Int) (ht : takeA (entL l i) = (r1, r2, r3, r4)) :
    Calls Try.prog 13 #[.slice (some (ad.add (i * 16))) 16 c'] w fun e w' => e = .returned (.tuple #[.agg #[.string r1, .int .i64 r2], .bool r3, .int .i64 r4]) ∧ Below w.heap.size w w' := by
  have hl : (entL l i).length = 16 := entL_len l i (by omega)
  have := D.entry_Take.calls 1 (some (ad.add (i * 16))) c' (entL l i) r1 r2 r3 r4 w (C_ent h hi hc) (by omega) (by rw [take_eq 1 (show Bytes (entL l i) from (hb.drop _).take _) (Nat.le_refl _), ht])
  rw [hl] at this
  exact this

def entOf (e : ByteArray × Int) : D.S23 := ⟨e.1, e.2⟩
def entsOf (s : List Sl) : List D.S23 := s.filterMap (Option.map entOf)
theorem entsOf_none (s : List Sl) : entsOf (s ++ [none]) = entsOf s := by simp [entsOf]
theorem entsOf_some (s : List Sl) (e : ByteArray × Int) : entsOf (s ++ [some e]) = entsOf s ++ [entOf e] := by simp [entsOf]
theorem entsOf_le (s : List Sl) : (entsOf s).length ≤ s.length := List.length_filterMap_le _ _
/-- What entry.All answers. -/
def ansA : Option (List Sl) → List D.S23 × Int
  | none => ([], 121)
  | some s => (entsOf s, 0)
def allA (l : List Int) : List D.S23 × Int := ansA (dirO l)
end Go.Proofs.Ytinfjmdcmfpdiaa.Al

/- entry.All: every row of bytes. -/
namespace Go.Proofs.Ytinfjmdcmfpdiaa.Al
open Go.RowKit Go.Maps Go.Proofs.Ytinfjmdcmfpdiaa.Rt Go.Proofs.Ytinfjmdcmfpdiaa.Md Go.Proofs.YtinfjmdcmfpdiaaW.PrintWords Go.Proofs.YtinfjmdcmfpdiaaW.PrintLast Go.Proofs.YtinfjmdcmfpdiaaW.PrintMore
set_option linter.unusedVariables false
set_option linter.unusedSimpArgs false

set_option maxHeartbeats 2000000 in
set_option maxRecDepth 100000 in
theorem all_bad (A0 : Option Addr) (c0 : Nat) (l0 : List Int) (w : World) (hbad : ¬ (l0.length % 16 = 0 ∧ l0.length ≤ 3840)) (hm : l0.length ≤ 9223372036854775807) :
    Calls Try.prog 23 #[.slice A0 l0.length c0] w fun e w' => ∃ v : Value, e = .returned (.tuple #[v, .int .i64 121]) ∧ Kd.R D.k23 23 w' w.heap.size (fun _ => True) v [] ∧ Below w.heap.size w w' := by
  by_cases h : l0.length % 16 = 0
  · have h1 : ((l0.length : Int) % 16 != 0) = false := by rw [bne_eq_false_iff_eq]; omega
    have h2 : decide ((l0.length : Int) > 3840) = true := decide_eq_true (by omega)
    clear hbad h
    go_enter Try.func23, Try.ntmps23
    go_wp2_with fail
    go_ret2
    exact ⟨_, rfl, Kd.R_nil _ _ _ _ _, Below.refl _ _⟩
  · have h1 : ((l0.length : Int) % 16 != 0) = true := by rw [bne_iff_ne]; omega
    clear hbad h
    go_enter Try.func23, Try.ntmps23
    go_wp2_with fail
    go_ret2
    exact ⟨_, rfl, Kd.R_nil _ _ _ _ _, Below.refl _ _⟩

theorem hnil (s : List Sl) (h : AllOk s) : hasN (names s) ⟨#[]⟩ = false := by
  cases hh : hasN (names s) ⟨#[]⟩
  · rfl
  · obtain ⟨i, hi⟩ := names_mem.1 ((hasN_iff _ _).1 hh)
    have h2 := (h _ hi).1
    have h3 : rightB [] = false := rfl
    rw [show ((⟨#[]⟩ : ByteArray), i).1.data.toList = [] from rfl, h3] at h2
    cases h2
/-- Behind a name's store into the set. -/
theorem all_stored {w w1 w2 : World} {n : ByteArray} {ino : Int} {v : Value} {xs : List D.S23} {l : List ByteArray} {k : Nat} (hlt : w.heap.size < w1.heap.size) (hB : Below w.heap.size w w1)
    (hO : Kd.R D.k23 23 w1 w.heap.size (fun b => b ≠ w.heap.size) v xs) (hM : w2.ownsMap Try.prog 9 (plainElem Try.prog 4) w.heap.size (k + 1) ((mapN l).put (.string n.data.toList) (.lit (.bool true))))
    (hg : (w1.alloc (.cells #[.string n, .int .i64 ino] 23)).grownBy w2 (some w.heap.size)) :
    Hid (w2.ownsMap Try.prog 9 (plainElem Try.prog 4) w.heap.size (k + 1) (mapN (l ++ [n]))) ∧ Hid (w2.heap[w1.heap.size]? = some (.cells #[.string n, .int .i64 ino] 23 (0, 0))) ∧ Hid (Kd.R D.k23 23 w2 w.heap.size (fun b => b ≠ w.heap.size) v xs) ∧ Hid (Below w.heap.size w w2) := by
  refine ⟨Lib.hid (by rw [mapN_snoc]; exact hM), Lib.hid (blk_grown (blk_new w1 _) hg (fun h => by injection h with h; omega)), Lib.hid (Kd.R_grown (Kd.R_alloc hO _) hg (fun b hb he => by injection he with he; exact hb he)), Lib.hid (pw_below_grown (below_alloc hB _) _ (below_alloc hB _).size hg (fun b hb => by injection hb with hb; omega))⟩

set_option maxHeartbeats 4000000 in
set_option maxRecDepth 100000 in
theorem all_good (A0 : Option Addr) (c0 : Nat) (l0 : List Int) (w : World) (hb : Bytes l0) (hr0 : Kd.C (Kd.int .u8) w A0 l0.length l0) (hc0 : l0.length ≤ c0) (hg : l0.length % 16 = 0) (hl : l0.length ≤ 3840) :
    Calls Try.prog 23 #[.slice A0 l0.length c0] w fun e w' => ∃ v : Value, e = .returned (.tuple #[v, .int .i64 (allA l0).2]) ∧ Kd.R D.k23 23 w' w.heap.size (fun _ => True) v (allA l0).1 ∧ Below w.heap.size w w' := by
  have HR := Lib.hid hr0
  have HBy := Lib.hid hb
  have h1 : ((l0.length : Int) % 16 != 0) = false := by rw [bne_eq_false_iff_eq]; omega
  have h2 : decide ((l0.length : Int) > 3840) = false := decide_eq_false (by omega)
  have hD : dirO l0 = slotsGo l0 (l0.length / 16) 0 [] := by unfold dirO; rw [if_pos ⟨hg, hl⟩]
  obtain ⟨R, hR⟩ : ∃ R, R = dirO l0 := ⟨_, rfl⟩
  have hA : allA l0 = ansA R := by rw [hR]; rfl
  rw [hA]
  have HG := Lib.hid hg
  have HS : Hid (slotsGo l0 (l0.length / 16 - 0) 0 [] = R) := Lib.hid (by rw [hR, hD]; rfl)
  clear hb hr0 hD hA hR hg
  have hmm := @run_makeMap Try.prog
  go_enter Try.func23, Try.ntmps23
  go_wp2_with fail
  go_loopw [5, 23] (fun v i wr => ∃ (k : Nat) (s : List Sl), i = .int .i64 k ∧ k ≤ l0.length / 16 ∧ s.length = k ∧ Hid (AllOk s) ∧ Hid (slotsGo l0 (l0.length / 16 - k) k s = R) ∧ Hid (Kd.R D.k23 23 wr w.heap.size (fun b => b ≠ w.heap.size) v (entsOf s)) ∧ Hid (wr.ownsMap Try.prog 9 (plainElem Try.prog 4) w.heap.size k (mapN (names s))) ∧ Hid (Below w.heap.size w wr)) (fun _ i _ => l0.length / 16 - (intOf i).toNat)
  case atStart => exact ⟨0, [], rfl, Nat.zero_le _, rfl, Lib.hid .nil, HS, Lib.hid (Kd.R_nil _ _ _ _ _), Lib.hid (World.ownsMap_made _ _ _ _), Lib.hid ((Below.refl _ _).alloc (Nat.le_refl _) _)⟩
  case round =>
    obtain ⟨k, s, rfl, hk, hsl, hOk, hS, hO, hM, hB⟩ := hrel
    clear HS
    by_cases hlt : k < l0.length / 16
    · have c1 : decide ((k : Int) < (l0.length : Int) / 16) = true := decide_eq_true (by omega)
      obtain ⟨ad, rfl⟩ : ∃ ad, A0 = some ad := by obtain ⟨ad, e, _⟩ := HR.out.2.2 (by omega); exact ⟨ad, e⟩
      have hd : Hid (l0.length / 16 - k = (l0.length / 16 - (k + 1)) + 1) := Lib.hid (by omega)
      replace hsl := Lib.hid hsl
      obtain ⟨Av, cv, ev⟩ := Kd.R_slice hO.out
      subst ev
      cases hT : takeO (entL l0 k) with
      | none =>
        have hA : Hid (takeA (entL l0 k) = (⟨#[]⟩, 0, false, 121)) := Lib.hid (by unfold takeA; rw [hT])
        have hE : Hid (R = none) := Lib.hid (by rw [← hS.out, hd.out]; simp only [slotsGo]; rw [hT])
        clear hT hS
        go_wp2_with fail
        refine (At.at_any ad l0.length c0 k (by omega) hc0 (by omega) _).mono ?_
        rintro e w' ⟨rfl, rfl⟩
        go_wp2_with fail
        refine (take_any _ ad l0 k c0 _ HBy.out (Kd.C_below HR.out hB.out) (by omega) hc0 (by omega) _ _ _ _ hA.out).mono ?_
        rintro e w1 ⟨rfl, hb⟩
        have hB1 := Lib.hid (below_alloc (below_step hB.out hb) (.cells #[.string ⟨#[]⟩, .int .i64 0] 23))
        clear hb
        go_wp2_with fail
        go_ret2
        rw [hE.out]
        exact ⟨_, rfl, Kd.R_nil _ _ _ _ _, hB1.out⟩
      | some o => cases o with
        | none =>
          have hA : Hid (takeA (entL l0 k) = (⟨#[]⟩, 0, false, 0)) := Lib.hid (by unfold takeA; rw [hT])
          have hE : Hid (slotsGo l0 (l0.length / 16 - (k + 1)) (k + 1) (s ++ [none]) = R) := Lib.hid (by rw [← hS.out, hd.out]; simp only [slotsGo]; rw [hT])
          clear hT hS
          go_wp2_with fail
          refine (At.at_any ad l0.length c0 k (by omega) hc0 (by omega) _).mono ?_
          rintro e w' ⟨rfl, rfl⟩
          go_wp2_with fail
          refine (take_any _ ad l0 k c0 _ HBy.out (Kd.C_below HR.out hB.out) (by omega) hc0 (by omega) _ _ _ _ hA.out).mono ?_
          rintro e w1 ⟨rfl, hb⟩
          have hB1 := Lib.hid (below_alloc (below_step hB.out hb) (.cells #[.string ⟨#[]⟩, .int .i64 0] 23))
          have hM1 := Lib.hid ((hM.out.kept (grown_of_below hb none) (by simp)).alloc (.cells #[.string ⟨#[]⟩, .int .i64 0] 23))
          have hO1 := Lib.hid (Kd.R_alloc (Kd.R_below hO.out hb) (.cells #[.string ⟨#[]⟩, .int .i64 0] 23))
          clear hb
          have hrun := set_run (t := 69) Try.underlying9 Try.underlying69 Try.underlying4 (zeroB _) hM1.out (s := ⟨#[]⟩) (Nat.zero_le _) (r := false) (hnil s hOk.out)
          go_wp2_with fail
          go_roundw
          case rel => exact ⟨k + 1, s ++ [none], by go_num, by omega, by rw [List.length_append, hsl.out]; rfl, Lib.hid (hOk.out.append .none), hE, by rw [entsOf_none]; exact hO1, by rw [names_append, names_none, List.append_nil]; exact Lib.hid (hM1.out.mono (by omega)), hB1⟩
          case measure => simp [intOf]; omega
        | some e =>
          obtain ⟨n, ino⟩ := e
          have hA : Hid (takeA (entL l0 k) = (n, ino, true, 0)) := Lib.hid (by unfold takeA; rw [hT])
          have hok := takeO_some hT
          have hOk2 : Hid (AllOk (s ++ [some (n, ino)])) := Lib.hid (hOk.out.append (.one ⟨hok.2.1, hok.2.2.1, hok.2.2.2⟩))
          have hnm : n.size ≤ maxLen := by have := (right_size hok.2.1).2; unfold maxLen; omega
          cases hr : hasN (names s) n with
          | true =>
            have hE : Hid (R = none) := Lib.hid (by rw [← hS.out, hd.out]; simp only [slotsGo]; rw [hT]; (try simp only); rw [if_pos ((hasN_iff _ _).1 hr)])
            clear hT hS hok
            go_wp2_with fail
            refine (At.at_any ad l0.length c0 k (by omega) hc0 (by omega) _).mono ?_
            rintro e w' ⟨rfl, rfl⟩
            go_wp2_with fail
            refine (take_any _ ad l0 k c0 _ HBy.out (Kd.C_below HR.out hB.out) (by omega) hc0 (by omega) _ _ _ _ hA.out).mono ?_
            rintro e w1 ⟨rfl, hb⟩
            have hB1 := Lib.hid (below_alloc (below_step hB.out hb) (.cells #[.string n, .int .i64 ino] 23))
            have hM1 := Lib.hid ((hM.out.kept (grown_of_below hb none) (by simp)).alloc (.cells #[.string n, .int .i64 ino] 23))
            clear hb
            have hrun := set_run (t := 69) Try.underlying9 Try.underlying69 Try.underlying4 (zeroB _) hM1.out hnm hr
            clear hr
            go_wp2_with fail
            go_ret2
            rw [hE.out]
            exact ⟨_, rfl, Kd.R_nil _ _ _ _ _, hB1.out⟩
          | false =>
            have hE : Hid (slotsGo l0 (l0.length / 16 - (k + 1)) (k + 1) (s ++ [some (n, ino)]) = R) := Lib.hid (by rw [← hS.out, hd.out]; simp only [slotsGo]; rw [hT]; (try simp only); rw [if_neg (fun h => by rw [(hasN_iff _ _).2 h] at hr; cases hr)])
            clear hT hS hok
            go_wp2_with fail
            refine (At.at_any ad l0.length c0 k (by omega) hc0 (by omega) _).mono ?_
            rintro e w' ⟨rfl, rfl⟩
            go_wp2_with fail
            refine (take_any _ ad l0 k c0 _ HBy.out (Kd.C_below HR.out hB.out) (by omega) hc0 (by omega) _ _ _ _ hA.out).mono ?_
            rintro e w1 ⟨rfl, hb⟩
            have hlt1 : w.heap.size < w1.heap.size := Nat.lt_of_lt_of_le hM.out.lt hb.size
            have hB1 := Lib.hid (below_step hB.out hb)
            have hM2 := Lib.hid ((hM.out.kept (grown_of_below hb none) (by simp)).alloc (.cells #[.string n, .int .i64 ino] 23))
            have hO1 := Lib.hid (Kd.R_below hO.out hb)
            clear hb
            have hrun := set_run (t := 69) Try.underlying9 Try.underlying69 Try.underlying4 (zeroB _) hM2.out hnm hr
            clear hr
            go_wp2_with (first | (at_mapUpdate; refine wpList_mapUpdate_own _ rfl _ _ _ 69 rfl 9 4 (Maps.string_keyed Try.underlying9) Try.underlying69 _ w.heap.size k (mapN (names s)) rfl hM2.out (by unfold maxLen; omega) _ _ _ rfl rfl (WideMaps.keyOf_string_mk Try.underlying9 hnm) _ [] (plainElem_bool Try.underlying4 true) ?_; intro w2 hM3 hgrow; obtain ⟨hM4, hbox2, hO2, hB2⟩ := all_stored hlt1 hB1.out hO1.out hM3 hgrow; have d0 := (blk_cell hbox2.out 0).trans rfl; have d1 := (blk_cell hbox2.out 1).trans rfl; clear hM3 hgrow) | ((with_reducible refine gate_builtin (b := .append) (xs := #[.tmp 46, .tmp 48]) rfl ?_); at_builtin; refine Kd.R_append D.k23 (w0 := w) w.heap.size rfl (.tmp 46) (.tmp 48) 40 23 (.agg #[(.string ⟨#[]⟩), (.int .i64 0)]) 24 rfl Try.underlying40 D.info23 rfl (by decide) (by omega) (.slice Av (entsOf s).length cv) (entsOf s) (⟨n, ino⟩ : D.S23) [.string n, .int .i64 ino] (fun b => b ≠ w.heap.size) (fun _ => False) rfl rfl (D.k23_mkM _ _ _ _) (fun _ hk => hk.elim) (fun b hb he => by have := hM4.out.lt; omega) hO2.out hB2.out hB2.out.size (by have := entsOf_le s; have := hsl.out; omega) ?_; intro v3 w3 ho3 hb3 hg3 hat3))
            go_roundw
            case rel => exact ⟨k + 1, s ++ [some (n, ino)], by go_num, by omega, by rw [List.length_append, hsl.out]; rfl, hOk2, hE, by rw [entsOf_some]; exact Lib.hid ho3, by rw [names_append, names_some]; exact Lib.hid (hM4.out.kept hg3 (by have := hO2.out.1; intro he; exact this _ he.symm rfl)), Lib.hid hb3⟩
            case measure => simp [intOf]; omega
    · obtain rfl : k = l0.length / 16 := by omega
      have c1 : decide (((l0.length / 16 : Nat) : Int) < (l0.length : Int) / 16) = false := decide_eq_false (by omega)
      have hE : Hid (some s = R) := Lib.hid (by rw [← hS.out, Nat.sub_self]; rfl)
      clear hS
      go_wp2_with fail
      go_ret2
      rw [← hE.out]
      exact ⟨_, rfl, Kd.R_mono hO.out (fun _ _ => trivial), hB.out⟩
theorem all_any (A0 : Option Addr) (c0 : Nat) (l0 : List Int) (w : World) (hb : Bytes l0) (hr0 : Kd.C (Kd.int .u8) w A0 l0.length l0) (hc0 : l0.length ≤ c0) :
    Calls Try.prog 23 #[.slice A0 l0.length c0] w fun e w' => ∃ v : Value, e = .returned (.tuple #[v, .int .i64 (allA l0).2]) ∧ Kd.R D.k23 23 w' w.heap.size (fun _ => True) v (allA l0).1 ∧ Below w.heap.size w w' := by
  by_cases h : l0.length % 16 = 0 ∧ l0.length ≤ 3840
  · exact all_good A0 c0 l0 w hb hr0 hc0 h.1 h.2
  · have e : allA l0 = ([], 121) := by unfold allA dirO; rw [if_neg h]; rfl
    rw [e]
    exact all_bad A0 c0 l0 w h hr0.2.1
end Go.Proofs.Ytinfjmdcmfpdiaa.Al

/- entry.place: where a name's entry stands in a directory's bytes. -/
namespace Go.Proofs.Ytinfjmdcmfpdiaa.Pc
open Go.RowKit Go.Proofs.Ytinfjmdcmfpdiaa.Rt Go.Proofs.Ytinfjmdcmfpdiaa.Md Go.Proofs.Ytinfjmdcmfpdiaa.Al Go.Proofs.YtinfjmdcmfpdiaaW.PrintWords Go.Proofs.YtinfjmdcmfpdiaaW.PrintLast Go.Proofs.YtinfjmdcmfpdiaaW.PrintMore
set_option linter.unusedVariables false
set_option linter.unusedSimpArgs false

/-! A scope through which the run goes by jumps to several labels. -/
/-- As Q; by a goto: J of the label. -/
def jumps (J : Nat → Act → World → Prop) (Q : Exit → Act → World → Prop) : Exit → Act → World → Prop
  | .goto l, a, w => J l a w
  | e, a, w => Q e a w
section
variable {P : Program} {a : Act} {w : World} {Q : Exit → Act → World → Prop}
theorem jumps_goto (J : Nat → Act → World → Prop) (l : Nat) : jumps J Q (.goto l) a w = J l a w := rfl
theorem jumps_ret (J : Nat → Act → World → Prop) : jumps J Q .ret a w = Q .ret a w := rfl
theorem jumps_normal (J : Nat → Act → World → Prop) : jumps J Q .normal a w = Q .normal a w := rfl
theorem jumps_exit (J : Nat → Act → World → Prop) (i : Nat) : jumps J Q (.exit i) a w = Q (.exit i) a w := rfl
theorem jumps_imp {J J' : Nat → Act → World → Prop} (h : ∀ l a w, J l a w → J' l a w) : ∀ (e : Exit) (a : Act) (w : World), jumps J Q e a w → jumps J' Q e a w := by
  intro e a w hq
  cases e <;> first | exact hq | exact h _ _ _ hq

theorem wp_scope_many {c : Code} (rest : Nat → Option Code) (J : Nat → Act → World → Prop) (μ : Nat → Act → World → Nat) (hf : ∀ l r, rest l = some r → findLabel c l = some r) (hJ : ∀ l a w, J l a w → (rest l).isSome = true)
    (first : c.wp P (jumps J Q) a w)
    (pass : ∀ l r a w, rest l = some r → J l a w → r.wp P (jumps (fun l' a' w' => J l' a' w' ∧ μ l' a' w' < μ l a w) Q) a w) : (Code.scope c).wp P Q a w := by
  intro b k cs
  have hg : ∀ l r, rest l = some r → gotoIn l (.inScope c :: k) = some (.code r :: .inScope c :: k) := fun l r h => by simp [gotoIn, hf l r h]
  have key : ∀ n l r a w, rest l = some r → μ l a w = n → J l a w → ∃ e a' w', Q e a' w' ∧ Arrives P (lone (b.at a (.code r :: .inScope c :: k)) cs w) b k cs e a' w' := by
    intro n
    induction n using Nat.strongRecOn with
    | _ n ih =>
      intro l r a w hr hn hj
      obtain ⟨e, a₁, w₁, hq, harr⟩ := pass l r a w hr hj b (.inScope c :: k) cs
      cases e with
      | normal => exact ⟨.normal, a₁, w₁, hq, Steps.trans harr (.one step_inScope)⟩
      | exit id => exact ⟨.exit id, a₁, w₁, hq, fun k' hk => harr k' (by simp [exitTo, hk])⟩
      | goto l' =>
        obtain ⟨hj', hlt⟩ : J l' a₁ w₁ ∧ μ l' a₁ w₁ < μ l a w := hq
        obtain ⟨r', hr'⟩ := Option.isSome_iff_exists.1 (hJ l' a₁ w₁ hj')
        obtain ⟨e₂, a₂, w₂, hq₂, harr₂⟩ := ih _ (by omega) l' r' a₁ w₁ hr' rfl hj'
        exact ⟨e₂, a₂, w₂, hq₂, .of_steps (harr _ (hg l' r' hr')) harr₂⟩
      | ret => exact ⟨_, a₁, w₁, hq, harr⟩
      | panic ch => exact ⟨_, a₁, w₁, hq, harr⟩
      | outgrown => exact ⟨_, a₁, w₁, hq, harr⟩
  obtain ⟨e, a₁, w₁, hq, harr⟩ := first b (.inScope c :: k) cs
  cases e with
  | normal => exact ⟨.normal, a₁, w₁, hq, .head step_scope (Steps.trans harr (.one step_inScope))⟩
  | exit id => exact ⟨.exit id, a₁, w₁, hq, fun k' hk => .head step_scope (harr k' (by simp [exitTo, hk]))⟩
  | goto l' =>
    have hj' : J l' a₁ w₁ := hq
    obtain ⟨r', hr'⟩ := Option.isSome_iff_exists.1 (hJ l' a₁ w₁ hj')
    obtain ⟨e₂, a₂, w₂, hq₂, harr₂⟩ := key _ l' r' a₁ w₁ hr' rfl hj'
    exact ⟨e₂, a₂, w₂, hq₂, .of_steps (.head step_scope (harr _ (hg l' r' hr'))) harr₂⟩
  | ret => exact ⟨_, a₁, w₁, hq, .of_steps (.one step_scope) harr⟩
  | panic ch => exact ⟨_, a₁, w₁, hq, .of_steps (.one step_scope) harr⟩
  | outgrown => exact ⟨_, a₁, w₁, hq, .of_steps (.one step_scope) harr⟩
end

attribute [go_sem] jumps_ret jumps_normal jumps_exit

/-- Where the name's entry stands. -/
def placeGo (n : ByteArray) : List Sl → Nat → Int
  | [], _ => -1
  | none :: r, i => placeGo n r (i + 1)
  | some e :: r, i => if e.1 = n then (i : Int) else placeGo n r (i + 1)
def placeA (s : List Sl) (n : ByteArray) : Int := placeGo n s 0

/-- The cells of the i-th sixteen bytes. -/
theorem ent_cell {w : World} {adk : Addr} {b : List Int} (h : Kd.C (Kd.int .u8) w (some adk) b.length b) (j : Nat) (hj : j < b.length) : w.cell? (adk.add j) = some (.int .u8 (b.getD j 0)) := by
  obtain ⟨ad, e, hx⟩ := Kd.at_int h (j : Int) (by omega) (by omega)
  cases e
  simpa [rd] using hx
theorem ent_slot {w w1 : World} {ad adk : Addr} {l0 : List Int} {s : List Sl} {c0 k : Nat} (HR : Kd.C (Kd.int .u8) w (some ad) l0.length l0) (hc0 : l0.length ≤ c0) (hB : Below w.heap.size w w1) (HL : l0 = bytesS s) (HS : AllOk s) (hk : k < s.length) (hadk : adk = ad.add (k * 16)) :
    Kd.C (Kd.int .u8) w1 (some adk) (slotB s[k]).length (slotB s[k]) := by
  have hlen : l0.length = 16 * s.length := by rw [HL]; exact bytesS_len HS
  have h := C_ent (i := k) (Kd.C_below HR hB) (by omega) hc0
  have e : entL l0 k = slotB s[k] := by rw [HL]; exact entL_bytes HS k hk
  rw [← hadk, e] at h
  exact h
theorem add_0 (a : Addr) : a.add 0 = a := by simp [Addr.add]
theorem add_1 (a : Addr) : a.add 1 = ⟨a.block, a.off + 1, none⟩ := by simp [Addr.add]
/-- What the walk reads of a free slot. -/
theorem cell_free {w : World} {adk : Addr} {o : Sl} (h : Kd.C (Kd.int .u8) w (some adk) (slotB o).length (slotB o)) (ho : o = none) : w.cell? adk = some (.int .u8 0) := by
  subst ho
  have := ent_cell h 0 (by decide)
  rw [add_0] at this
  exact this
/-- What the walk reads of an entry. -/
theorem cell_ent {w : World} {adk : Addr} {o : Sl} {x : ByteArray} {i : Int} (h : Kd.C (Kd.int .u8) w (some adk) (slotB o).length (slotB o)) (ho : o = some (x, i)) (hx : okE (x, i)) :
    w.cell? adk = some (.int .u8 (x.size : Int)) ∧ w.cell? ⟨adk.block, adk.off + 1, none⟩ = some (.int .u8 (La.bitsOf x.data.toList)) ∧ w.cell? ⟨adk.block, adk.off + 2, none⟩ = some (.int .u8 i) := by
  subst ho
  have hl : (slotB (some (x, i))).length = 16 := La.layL_len x i (okE.size hx).2
  have h0 := ent_cell h 0 (by omega)
  have h1 := ent_cell h 1 (by omega)
  have h2 := ent_cell h 2 (by omega)
  rw [add_0] at h0
  rw [add_1] at h1
  exact ⟨h0, h1, by rw [show adk.add 2 = ⟨adk.block, adk.off + 2, none⟩ by simp [Addr.add]] at h2; exact h2⟩
/-- The name of an entry, cut out. -/
theorem cut_ent {adk : Addr} {o : Sl} {x : ByteArray} {i : Int} {c : Nat} (ho : o = some (x, i)) (hx : okE (x, i)) (hc : 16 ≤ c) :
    ∃ adm : Addr, (∀ W : World, (Instr.slice 24 (.slice (some adk) 16 c) (some (.int .i64 3)) (some (.int .i64 (3 + (x.size : Int)))) none).run Try.prog W = .ok (.slice (some adm) x.size (c - 3)) W) ∧
      ∀ w : World, Kd.C (Kd.int .u8) w (some adk) (slotB o).length (slotB o) → (convert 24 9 (.slice (some adm) x.size (c - 3))).run Try.prog w = .ok (.string x) w := by
  subst ho
  have hs := okE.size hx
  simp only at hs
  have hl : (slotB (some (x, i))).length = 16 := La.layL_len x i hs.2
  obtain ⟨i0, hi, hz0, hz1, hz2⟩ := info_parts Rl.info_u8
  refine ⟨adk.add 3, fun W => ?_, fun w h => ?_⟩
  · have h := cut_mid (P := Try.prog) 24 5 .i64 .i64 Try.underlying24 hi 1 hz1 (some adk) 16 c 3 (3 + (x.size : Int)) (by omega) (by omega) (by omega) hc W
    have e1 : (3 + (x.size : Int)).toNat - (3 : Int).toNat = x.size := by omega
    rw [e1, if_neg (by omega)] at h
    exact h
  · have h1 := Kd.C_mid (lo := 3) (hi := 3 + x.size) (c := c) h (by omega) (by omega) (by omega)
    rw [if_neg (by omega)] at h1
    have e2 : ((slotB (some (x, i))).take (3 + x.size)).drop 3 = x.data.toList.map fun b => (b.toNat : Int) := layL_mid x i
    rw [e2] at h1
    have h2 := Kd.C_string (P := Try.prog) (c := c - 3) Try.underlying24 Try.underlying5 Try.underlying9 h1
    rw [str_of, List.length_map, ← Lib.size_eq] at h2
    exact h2
theorem placeGo_free {n : ByteArray} {s : List Sl} {k : Nat} (hk : k < s.length) (h : s[k] = none) : placeGo n (s.drop k) k = placeGo n (s.drop (k + 1)) (k + 1) := by
  rw [List.drop_eq_getElem_cons hk, h]; rfl
theorem placeGo_other {n : ByteArray} {s : List Sl} {k : Nat} {x : ByteArray} {i : Int} (hk : k < s.length) (h : s[k] = some (x, i)) (hx : x ≠ n) : placeGo n (s.drop k) k = placeGo n (s.drop (k + 1)) (k + 1) := by
  rw [List.drop_eq_getElem_cons hk, h]
  show (if x = n then (k : Int) else placeGo n (s.drop (k + 1)) (k + 1)) = _
  rw [if_neg hx]
theorem placeGo_hit {n : ByteArray} {s : List Sl} {k : Nat} {x : ByteArray} {i : Int} (hk : k < s.length) (h : s[k] = some (x, i)) (hx : x = n) : placeGo n (s.drop k) k = (k : Int) := by
  rw [List.drop_eq_getElem_cons hk, h]
  show (if x = n then (k : Int) else placeGo n (s.drop (k + 1)) (k + 1)) = _
  rw [if_pos hx]
theorem at_e (ad adk : Addr) (n c i : Nat) (hi : (i + 1) * 16 ≤ n) (hc : n ≤ c) (hn : n ≤ 100000) (hk : Hid (adk = ad.add (i * 16))) (w : World) :
    Calls Try.prog 36 #[.slice (some ad) n c, .int .i64 i] w fun e w' => e = .returned (.slice (some adk) 16 (c - i * 16)) ∧ w' = w := by
  rw [hk.out]; exact At.at_any ad n c i hi hc hn w

theorem wp_scope_one {P : Program} {c X : Code} {a : Act} {w : World} {Q : Exit → Act → World → Prop} (J : Nat → Act → World → Prop) (μ : Nat → Act → World → Nat)
    (h0 : findLabel c 0 = some (.seq .skip X)) (hJ : ∀ l a w, J l a w → l = 0)
    (pass : ∀ a w, J 0 a w → X.wp P (jumps (fun l' a' w' => J l' a' w' ∧ μ l' a' w' < μ 0 a w) Q) a w)
    (first : (∀ a w, J 0 a w → X.wp P (jumps J Q) a w) → c.wp P (jumps J Q) a w) : (Code.scope c).wp P Q a w := by
  refine wp_scope_many (fun l => if l = 0 then findLabel c l else none) J μ (fun l r h => by split at h <;> first | exact h | cases h) ?_ (first fun a w h => wp_mono (pass a w h) (jumps_imp fun _ _ _ h => h.1)) ?_
  · intro l a w h
    have := hJ l a w h
    subst this
    simp [h0]
  · intro l r a w hr h
    have := hJ l a w h
    subst this
    simp [h0] at hr
    subst hr
    exact wp_seq (wp_skip (pass a w h))

/-- At the label. -/
def J (A0 : Option Addr) (c0 : Nat) (l0 : List Int) (n : ByteArray) (s : List Sl) (w0 : World) (l : Nat) (a : Act) (w : World) : Prop :=
  l = 0 ∧ ∃ (k : Nat) (u2 u3 u7 u8 u9 u10 u11 u12 u13 u14 u15 u16 u17 u18 u19 u20 u21 u22 u23 u24 u25 u26 u27 u28 u29 u30 u31 u32 u33 u34 u35 u36 u37 u38 u39 u40 u41 u42 u43 : Value), a = { tmps := List.toArray (Value.slice A0 l0.length c0 :: Value.string n :: u2 :: u3 :: Value.int .i64 0 :: Value.int .i64 (k : Int) :: Value.int .u8 (La.bitsOf n.data.toList) :: u7 :: u8 :: u9 :: u10 :: u11 :: u12 :: u13 :: u14 :: u15 :: u16 :: u17 :: u18 :: u19 :: u20 :: u21 :: u22 :: u23 :: u24 :: u25 :: u26 :: u27 :: u28 :: u29 :: u30 :: u31 :: u32 :: u33 :: u34 :: u35 :: u36 :: u37 :: u38 :: u39 :: u40 :: u41 :: u42 :: u43 :: []), defers := [] } ∧
    k ≤ s.length ∧ placeGo n (s.drop k) k = placeA s n ∧ Below w0.heap.size w0 w
theorem J.mk {A0 : Option Addr} {c0 : Nat} {l0 : List Int} {n : ByteArray} {s : List Sl} {w0 w : World} {k : Nat} {u2 u3 u7 u8 u9 u10 u11 u12 u13 u14 u15 u16 u17 u18 u19 u20 u21 u22 u23 u24 u25 u26 u27 u28 u29 u30 u31 u32 u33 u34 u35 u36 u37 u38 u39 u40 u41 u42 u43 : Value} (hk : k ≤ s.length) (hP : Hid (placeGo n (s.drop k) k = placeA s n)) (hB : Hid (Below w0.heap.size w0 w)) : J A0 c0 l0 n s w0 0 { tmps := List.toArray (Value.slice A0 l0.length c0 :: Value.string n :: u2 :: u3 :: Value.int .i64 0 :: Value.int .i64 (k : Int) :: Value.int .u8 (La.bitsOf n.data.toList) :: u7 :: u8 :: u9 :: u10 :: u11 :: u12 :: u13 :: u14 :: u15 :: u16 :: u17 :: u18 :: u19 :: u20 :: u21 :: u22 :: u23 :: u24 :: u25 :: u26 :: u27 :: u28 :: u29 :: u30 :: u31 :: u32 :: u33 :: u34 :: u35 :: u36 :: u37 :: u38 :: u39 :: u40 :: u41 :: u42 :: u43 :: []), defers := [] } w :=
  ⟨rfl, k, u2, u3, u7, u8, u9, u10, u11, u12, u13, u14, u15, u16, u17, u18, u19, u20, u21, u22, u23, u24, u25, u26, u27, u28, u29, u30, u31, u32, u33, u34, u35, u36, u37, u38, u39, u40, u41, u42, u43, rfl, hk, hP.out, hB.out⟩
/-- What a pass lowers. -/
def μ (s : List Sl) (_ : Nat) (a : Act) (_ : World) : Nat := s.length - (intOf (a.tmps.getD 5 undef)).toNat
theorem mu_at {A0 : Option Addr} {c0 : Nat} {l0 : List Int} {n : ByteArray} {s : List Sl} {l : Nat} {w : World} {k : Nat} {u2 u3 u7 u8 u9 u10 u11 u12 u13 u14 u15 u16 u17 u18 u19 u20 u21 u22 u23 u24 u25 u26 u27 u28 u29 u30 u31 u32 u33 u34 u35 u36 u37 u38 u39 u40 u41 u42 u43 : Value} : μ s l { tmps := List.toArray (Value.slice A0 l0.length c0 :: Value.string n :: u2 :: u3 :: Value.int .i64 0 :: Value.int .i64 (k : Int) :: Value.int .u8 (La.bitsOf n.data.toList) :: u7 :: u8 :: u9 :: u10 :: u11 :: u12 :: u13 :: u14 :: u15 :: u16 :: u17 :: u18 :: u19 :: u20 :: u21 :: u22 :: u23 :: u24 :: u25 :: u26 :: u27 :: u28 :: u29 :: u30 :: u31 :: u32 :: u33 :: u34 :: u35 :: u36 :: u37 :: u38 :: u39 :: u40 :: u41 :: u42 :: u43 :: []), defers := [] } w = s.length - k := rfl

set_option maxHeartbeats 8000000 in
set_option maxRecDepth 100000 in
theorem place_any (A0 : Option Addr) (c0 : Nat) (l0 : List Int) (n : ByteArray) (s : List Sl) (w : World) (hn : n.size ≤ maxLen) (hs : AllOk s) (hl : s.length ≤ 240) (hb : l0 = bytesS s) (hr0 : Kd.C (Kd.int .u8) w A0 l0.length l0) (hc0 : l0.length ≤ c0) :
    Calls Try.prog 35 #[.slice A0 l0.length c0, .string n] w fun e w' => e = .returned (.int .i64 (placeA s n)) ∧ Below w.heap.size w w' := by
  have HR := Lib.hid hr0
  have HS := Lib.hid hs
  have HL := Lib.hid hb
  have hlen : Hid (l0.length = 16 * s.length) := Lib.hid (by rw [hb]; exact bytesS_len hs)
  have hl0 : l0.length ≤ 3840 := by have := hlen.out; omega
  clear hr0 hs hb
  go_enter Try.func35, Try.ntmps35
  go_wp2_with fail
  refine wp_scope_one (J A0 c0 l0 n s w) (μ s) rfl (fun _ _ _ h => h.1) ?_ ?_
  · rintro a w1 ⟨-, k, u2, u3, u7, u8, u9, u10, u11, u12, u13, u14, u15, u16, u17, u18, u19, u20, u21, u22, u23, u24, u25, u26, u27, u28, u29, u30, u31, u32, u33, u34, u35, u36, u37, u38, u39, u40, u41, u42, u43, rfl, hk, hP, hB⟩
    replace hP := Lib.hid hP
    replace hB := Lib.hid hB
    rw [mu_at]
    by_cases hlt : k < s.length
    · have c1 : ((k : Int) == (l0.length : Int) / 16) = false := beq_eq_false_iff_ne.2 (by have := hlen.out; omega)
      obtain ⟨ad, rfl⟩ : ∃ ad, A0 = some ad := by obtain ⟨ad, e, _⟩ := HR.out.2.2 (by have := hlen.out; omega); exact ⟨ad, e⟩
      obtain ⟨adk, hadk⟩ : ∃ a, a = ad.add (k * 16) := ⟨_, rfl⟩
      replace hadk := Lib.hid hadk
      have hC := ent_slot HR.out hc0 hB.out HL.out HS.out hlt hadk.out
      cases hsk : s[k] with
      | none =>
        have g0 := cell_free hC hsk
        have hN : Hid (placeGo n (s.drop (k + 1)) (k + 1) = placeA s n) := Lib.hid ((placeGo_free hlt hsk).symm.trans hP.out)
        clear hC hsk hP
        go_wp2_with fail
        refine (at_e ad adk l0.length c0 k (by have := hlen.out; omega) hc0 (by have := hlen.out; omega) hadk _).mono ?_
        rintro e w2 ⟨rfl, hw⟩
        subst hw
        go_wp2_with fail
        apply wp_goto
        refine ⟨J.mk (k := k + 1) (by omega) hN hB, ?_⟩
        refine Nat.lt_of_le_of_lt (Nat.le_of_eq (mu_at (k := k + 1))) ?_
        omega
      | some e =>
        obtain ⟨x, i⟩ := e
        have hok : okE (x, i) := HS.out _ (by rw [← hsk]; exact List.getElem_mem hlt)
        have hxs := okE.size hok
        simp only at hxs
        obtain ⟨hx1, hx2⟩ := hxs
        obtain ⟨g0, g1, -⟩ := cell_ent hC hsk hok
        have t0 : ((x.size : Int) == 0) = false := beq_eq_false_iff_ne.2 (by omega)
        by_cases hbits : La.bitsOf x.data.toList = La.bitsOf n.data.toList
        · have t1 : (La.bitsOf x.data.toList != La.bitsOf n.data.toList) = false := by rw [bne_eq_false_iff_eq]; exact hbits
          obtain ⟨adm, hcut, hconv⟩ := cut_ent (adk := adk) (c := c0 - k * 16) hsk hok (by have := hlen.out; omega)
          replace hconv := hconv _ hC
          by_cases hxn : x = n
          · have t2 : (x.toList == n.toList) = true := by rw [beq_iff_eq, hxn]
            have hE : Hid (placeA s n = (k : Int)) := Lib.hid (hP.out.symm.trans (placeGo_hit hlt hsk hxn))
            clear hC hsk hP hbits hok hxn
            go_wp2_with fail
            refine (at_e ad adk l0.length c0 k (by have := hlen.out; omega) hc0 (by have := hlen.out; omega) hadk _).mono ?_
            rintro e w2 ⟨rfl, hw⟩
            subst hw
            go_wp2_with fail
            rw [jumps_ret]
            go_ret
            exact ⟨by rw [hE.out]; rfl, hB.out⟩
          · have t2 : (x.toList == n.toList) = false := by rw [beq_eq_false_iff_ne]; intro h; rw [Lib.toList_data, Lib.toList_data] at h; exact hxn (ba_ext h)
            have hN : Hid (placeGo n (s.drop (k + 1)) (k + 1) = placeA s n) := Lib.hid ((placeGo_other hlt hsk hxn).symm.trans hP.out)
            clear hC hsk hP hbits hok hxn
            go_wp2_with fail
            refine (at_e ad adk l0.length c0 k (by have := hlen.out; omega) hc0 (by have := hlen.out; omega) hadk _).mono ?_
            rintro e w2 ⟨rfl, hw⟩
            subst hw
            go_wp2_with fail
            apply wp_goto
            refine ⟨J.mk (k := k + 1) (by omega) hN hB, ?_⟩
            refine Nat.lt_of_le_of_lt (Nat.le_of_eq (mu_at (k := k + 1))) ?_
            omega
        · have t1 : (La.bitsOf x.data.toList != La.bitsOf n.data.toList) = true := by rw [bne_iff_ne]; exact hbits
          have hN : Hid (placeGo n (s.drop (k + 1)) (k + 1) = placeA s n) := Lib.hid ((placeGo_other hlt hsk (fun h => hbits (by rw [h]))).symm.trans hP.out)
          clear hC hsk hP hbits hok
          go_wp2_with fail
          refine (at_e ad adk l0.length c0 k (by have := hlen.out; omega) hc0 (by have := hlen.out; omega) hadk _).mono ?_
          rintro e w2 ⟨rfl, hw⟩
          subst hw
          go_wp2_with fail
          apply wp_goto
          refine ⟨J.mk (k := k + 1) (by omega) hN hB, ?_⟩
          refine Nat.lt_of_le_of_lt (Nat.le_of_eq (mu_at (k := k + 1))) ?_
          omega
    · obtain rfl : k = s.length := by omega
      have c1 : ((s.length : Int) == (l0.length : Int) / 16) = true := beq_iff_eq.2 (by have := hlen.out; omega)
      have hE : Hid (placeA s n = -1) := Lib.hid (by rw [← hP.out, List.drop_length]; rfl)
      clear hP
      go_wp2_with fail
      rw [jumps_ret]
      go_ret
      exact ⟨by rw [hE.out]; rfl, hB.out⟩
  · intro pass
    go_wp2_with fail
    refine (La.bits_any n hn _).mono ?_
    rintro e w1 ⟨rfl, hb⟩
    have hB := Lib.hid hb
    clear hb
    go_wp2_with fail
    apply wp_label
    rename_i K hK
    refine hK _ _ ?_
    clear hK
    exact pass _ _ (J.mk (k := 0) (Nat.zero_le _) (Lib.hid rfl) hB)
end Go.Proofs.Ytinfjmdcmfpdiaa.Pc

/- What entry.Find, Add and Remove answer, in slots. No walk. -/
namespace Go.Proofs.Ytinfjmdcmfpdiaa.Md
open Go.RowKit Go.Proofs.Ytinfjmdcmfpdiaa.Rt Go.Proofs.Ytinfjmdcmfpdiaa.Pc Go.Proofs.YtinfjmdcmfpdiaaW.PrintWords Go.Proofs.YtinfjmdcmfpdiaaW.PrintLast Go.Proofs.YtinfjmdcmfpdiaaW.PrintMore

/-- A name's inode. -/
def findGo (n : ByteArray) : List Sl → Option Int
  | [] => none
  | none :: r => findGo n r
  | some e :: r => if e.1 = n then some e.2 else findGo n r
def findR : Option Int → Int × Bool
  | none => (0, false)
  | some i => (i, true)
def findA (l : List Int) (n : ByteArray) : Int × Bool := match dirO l with | none => (0, false) | some s => findR (findGo n s)

theorem place_go (n : ByteArray) (s : List Sl) : ∀ k : Nat, (placeGo n s k = -1 ∧ findGo n s = none ∧ n ∉ names s) ∨ ∃ (j : Nat) (i : Int) (hj : j < s.length), placeGo n s k = ((k + j : Nat) : Int) ∧ s[j] = some (n, i) ∧ findGo n s = some i := by
  induction s with
  | nil => intro k; left; exact ⟨rfl, rfl, by simp [names]⟩
  | cons o r ih =>
    intro k
    cases o with
    | none =>
      rcases ih (k + 1) with ⟨h1, h2, h3⟩ | ⟨j, i, hj, h1, h2, h3⟩
      · left; exact ⟨h1, h2, by simpa [names] using h3⟩
      · right; exact ⟨j + 1, i, by simp; omega, by show placeGo n r (k + 1) = _; rw [h1]; congr 1; omega, by simpa using h2, h3⟩
    | some e =>
      by_cases he : e.1 = n
      · right
        refine ⟨0, e.2, by simp, ?_, ?_, ?_⟩
        · show (if e.1 = n then (k : Int) else placeGo n r (k + 1)) = _
          rw [if_pos he]; rfl
        · show some e = _
          rw [← he]
        · show (if e.1 = n then some e.2 else findGo n r) = _
          rw [if_pos he]
      · have e1 : placeGo n (some e :: r) k = placeGo n r (k + 1) := by show (if e.1 = n then (k : Int) else placeGo n r (k + 1)) = _; rw [if_neg he]
        have e2 : findGo n (some e :: r) = findGo n r := by show (if e.1 = n then some e.2 else findGo n r) = _; rw [if_neg he]
        have e3 : names (some e :: r) = e.1 :: names r := by simp [names]
        rw [e1, e2, e3]
        rcases ih (k + 1) with ⟨h1, h2, h3⟩ | ⟨j, i, hj, h1, h2, h3⟩
        · left; exact ⟨h1, h2, by rw [List.mem_cons]; rintro (h | h); exact he h.symm; exact h3 h⟩
        · right; exact ⟨j + 1, i, by simp; omega, by rw [h1]; congr 1; omega, by simpa using h2, h3⟩
theorem place_cases (n : ByteArray) (s : List Sl) : (placeA s n = -1 ∧ findGo n s = none ∧ n ∉ names s) ∨ ∃ (j : Nat) (i : Int) (hj : j < s.length), placeA s n = (j : Int) ∧ s[j] = some (n, i) ∧ findGo n s = some i := by
  rcases place_go n s 0 with h | ⟨j, i, hj, h1, h2, h3⟩
  · exact .inl h
  · exact .inr ⟨j, i, hj, by unfold placeA; rw [h1]; congr 1; omega, h2, h3⟩

/-- The first free slot, from the k-th on. -/
def freeGo : List Sl → Nat → Option Nat
  | [], _ => none
  | none :: _, k => some k
  | some _ :: r, k => freeGo r (k + 1)
def fillS (s : List Sl) (e : ByteArray × Int) : Option Nat → List Int × Int
  | some k => (bytesS (s.set k (some e)), 0)
  | none => if s.length < 240 then (bytesS (s ++ [some e]), 0) else ([], 5)
def addS (s : List Sl) (n : ByteArray) (ino : Int) : List Int × Int :=
  if (La.layA n ino).2 = 0 then (if 0 ≤ placeA s n then ([], 3) else fillS s (n, ino) (freeGo s 0)) else ([], (La.layA n ino).2)
def addA (l : List Int) (n : ByteArray) (ino : Int) : List Int × Int := match dirO l with | none => ([], 121) | some s => addS s n ino

/-- The first k slots, without the free ones at their end. -/
def trimGo (t : List Sl) : Nat → List Sl
  | 0 => []
  | k + 1 => if t[k]? = some none then trimGo t k else t.take (k + 1)
def trim (t : List Sl) : List Sl := trimGo t t.length
def removeS (s : List Sl) (n : ByteArray) : List Int × Int := if 0 ≤ placeA s n then (bytesS (trim (s.set (placeA s n).toNat none)), 0) else ([], 2)
def removeA (l : List Int) (n : ByteArray) : List Int × Int := match dirO l with | none => ([], 121) | some s => removeS s n

theorem freeGo_drop_none {s : List Sl} {k : Nat} (hk : k < s.length) (h : s[k] = none) : freeGo (s.drop k) k = some k := by
  rw [List.drop_eq_getElem_cons hk, h]; rfl
theorem freeGo_drop_some {s : List Sl} {k : Nat} {e : ByteArray × Int} (hk : k < s.length) (h : s[k] = some e) : freeGo (s.drop k) k = freeGo (s.drop (k + 1)) (k + 1) := by
  rw [List.drop_eq_getElem_cons hk, h]; rfl
theorem AllOk.set {s : List Sl} (hs : AllOk s) (k : Nat) {o : Sl} (ho : ∀ e, o = some e → okE e) : AllOk (s.set k o) := by
  intro e he
  rcases List.mem_or_eq_of_mem_set he with h | h
  · exact hs e h
  · exact ho e h.symm
theorem AllOk.take {s : List Sl} (hs : AllOk s) (k : Nat) : AllOk (s.take k) := fun e he => hs e (List.mem_of_mem_take he)
/-- A slot's bytes laid over the old ones. -/
theorem bytesS_set {s : List Sl} (hs : AllOk s) {k : Nat} (hk : k < s.length) {o : Sl} (ho : (slotB o).length = 16) :
    (bytesS s).take (16 * k) ++ slotB o ++ (bytesS s).drop (16 * k + (slotB o).length) = bytesS (s.set k o) := by
  have e : s = s.take k ++ s[k] :: s.drop (k + 1) := by rw [← List.drop_eq_getElem_cons hk, List.take_append_drop]
  have hl : (bytesS (s.take k)).length = 16 * k := by rw [bytesS_len (hs.take k), List.length_take]; omega
  have hm : (slotB s[k]).length = 16 := slotB_len hs (List.getElem_mem hk)
  have e2 : bytesS s = bytesS (s.take k) ++ (slotB s[k] ++ bytesS (s.drop (k + 1))) := by
    conv => lhs; rw [e]
    rw [bytesS_append, bytesS_cons]
  have h1 : (bytesS s).take (16 * k) = bytesS (s.take k) := by
    rw [e2, List.take_append_of_le_length (by omega), List.take_of_length_le (by omega)]
  have h2 : (bytesS s).drop (16 * k + (slotB o).length) = bytesS (s.drop (k + 1)) := by
    rw [e2, ho, ← List.append_assoc, List.drop_append_of_le_length (by rw [List.length_append]; omega), List.drop_of_length_le (by rw [List.length_append]; omega), List.nil_append]
  have h3 : s.set k o = s.take k ++ o :: s.drop (k + 1) := by
    conv => lhs; rw [e]
    rw [List.set_append_right _ _ (by rw [List.length_take]; omega)]
    have : k - (s.take k).length = 0 := by rw [List.length_take]; omega
    rw [this]; rfl
  rw [h1, h2, h3, bytesS_append, bytesS_cons, List.append_assoc]
theorem bytesS_take {s : List Sl} (hs : AllOk s) {k : Nat} (hk : k ≤ s.length) : (bytesS s).take (16 * k) = bytesS (s.take k) := by
  have hl : (bytesS (s.take k)).length = 16 * k := by rw [bytesS_len (hs.take k), List.length_take]; omega
  have e2 : bytesS s = bytesS (s.take k) ++ bytesS (s.drop k) := by rw [← bytesS_append, List.take_append_drop]
  rw [e2, List.take_append_of_le_length (by omega), List.take_of_length_le (by omega)]
end Go.Proofs.Ytinfjmdcmfpdiaa.Md

/- The reference's functions of layer 12 answer as the model does. No walk. -/
namespace Go.Proofs.Ytinfjmdcmfpdiaa.Md
open Go.RowKit Go.Proofs.Ytinfjmdcmfpdiaa.Rt Go.Proofs.Ytinfjmdcmfpdiaa.Pc Go.Proofs.Ytinfjmdcmfpdiaa.Al Go.Proofs.Ytinfjmdcmfpdiaa.D Go.Proofs.YtinfjmdcmfpdiaaW.PrintWords Go.Proofs.YtinfjmdcmfpdiaaW.PrintLast Go.Proofs.YtinfjmdcmfpdiaaW.PrintMore

def slotOf : Sl → S67
  | none => ⟨⟨⟨#[]⟩, 0⟩, false⟩
  | some e => ⟨⟨e.1, e.2⟩, true⟩
def ansS : Option (List Sl) → List S67 × Bool
  | none => ([], false)
  | some s => (s.map slotOf, true)
theorem rd_slot (s : List Sl) (j : Nat) (h : j < s.length) : rd_T67 (s.map slotOf) (j : Int) = slotOf s[j] := by
  unfold rd_T67
  rw [Int.toNat_natCast, List.getD_eq_getElem?_getD, List.getElem?_map, List.getElem?_eq_getElem h]; rfl
theorem w_nat (j m : Nat) (h : j + m ≤ 100000) : wrap64 ((j : Int) + (m : Int)) = ((j + m : Nat) : Int) := by unfold wrap64; omega
theorem w_one (j : Nat) (h : j ≤ 90000) : wrap64 ((j : Int) + 1) = ((j + 1 : Nat) : Int) := by unfold wrap64; omega
theorem str_eq {a b : ByteArray} : a.toList = b.toList ↔ a = b := by
  rw [Lib.toList_data, Lib.toList_data]
  exact ⟨fun h => ba_ext h, fun h => by rw [h]⟩

/-! Slots -/
theorem ev_l1_free (l : List Int) (x5 : Int) (s : List Sl) (hs : s.length ≤ 240) (r : List S67 × Bool) (h : Ev (fun k => moatref12_Slots.l0 k l ((s ++ [none]).map slotOf) (wrap64 (x5 + 16))) r) (d : Nat) :
    ∀ j : Nat, j + d = s.length → Ev (fun k => moatref12_Slots.l1 k l (s.map slotOf) x5 false (j : Int) ⟨#[]⟩ 0) r := by
  induction d with
  | zero =>
    intro j hj
    refine Ev.step (fun k => ?_) h
    simp only [moatref12_Slots.l1]
    rw [if_neg (by rw [List.length_map]; omega), if_pos (by rw [List.length_map]; omega), List.map_append]; rfl
  | succ d ih =>
    intro j hj
    refine Ev.step (fun k => ?_) (ih (j + 1) (by omega))
    simp only [moatref12_Slots.l1]
    rw [if_pos (by rw [List.length_map]; omega), if_neg (by decide), w_one j (by omega)]
theorem ev_l1_miss (l : List Int) (x5 : Int) (s : List Sl) (hs : s.length ≤ 240) (e : ByteArray × Int) (hm : e.1 ∉ names s) (r : List S67 × Bool) (h : Ev (fun k => moatref12_Slots.l0 k l ((s ++ [some e]).map slotOf) (wrap64 (x5 + 16))) r) (d : Nat) :
    ∀ j : Nat, j + d = s.length → Ev (fun k => moatref12_Slots.l1 k l (s.map slotOf) x5 true (j : Int) e.1 e.2) r := by
  induction d with
  | zero =>
    intro j hj
    refine Ev.step (fun k => ?_) h
    simp only [moatref12_Slots.l1]
    rw [if_neg (by rw [List.length_map]; omega), if_pos (by rw [List.length_map]; omega), List.map_append]; rfl
  | succ d ih =>
    intro j hj
    have hlt : j < s.length := by omega
    refine Ev.step (fun k => ?_) (ih (j + 1) (by omega))
    simp only [moatref12_Slots.l1]
    rw [if_pos (by rw [List.length_map]; omega), if_pos trivial, if_pos (by omega), rd_slot s j hlt, w_one j (by omega)]
    cases hsj : s[j] with
    | none => rw [if_neg (by simp [slotOf])]
    | some p =>
      rw [if_pos (by rfl), if_neg]
      intro h
      have h2 : p.1 = e.1 := str_eq.1 h
      exact hm (names_mem.2 ⟨p.2, by rw [← h2, ← hsj]; exact List.getElem_mem hlt⟩)
theorem ev_l1_hit (l : List Int) (x5 : Int) (s : List Sl) (hs : s.length ≤ 240) (e : ByteArray × Int) (d : Nat) :
    ∀ j : Nat, j + d = s.length → e.1 ∈ names (s.drop j) → Ev (fun k => moatref12_Slots.l1 k l (s.map slotOf) x5 true (j : Int) e.1 e.2) ([], false) := by
  induction d with
  | zero => intro j hj hm; rw [List.drop_of_length_le (by omega)] at hm; cases hm
  | succ d ih =>
    intro j hj hm
    have hlt : j < s.length := by omega
    by_cases hh : ∃ i, s[j] = some (e.1, i)
    · obtain ⟨i, hi⟩ := hh
      refine Ev.step (f := fun _ => some ([], false)) (fun k => ?_) (Ev.now _)
      simp only [moatref12_Slots.l1]
      rw [if_pos (by rw [List.length_map]; omega), if_pos trivial, if_pos (by omega), rd_slot s j hlt, hi, if_pos (by rfl), if_pos (by rfl)]
    · have hm2 : e.1 ∈ names (s.drop (j + 1)) := by
        rw [names_mem] at hm ⊢
        obtain ⟨i, hi⟩ := hm
        rw [List.drop_eq_getElem_cons hlt, List.mem_cons] at hi
        rcases hi with hi | hi
        · exact absurd ⟨i, hi.symm⟩ hh
        · exact ⟨i, hi⟩
      refine Ev.step (fun k => ?_) (ih (j + 1) (by omega) hm2)
      simp only [moatref12_Slots.l1]
      rw [if_pos (by rw [List.length_map]; omega), if_pos trivial, if_pos (by omega), rd_slot s j hlt, w_one j (by omega)]
      cases hsj : s[j] with
      | none => rw [if_neg (by simp [slotOf])]
      | some p =>
        rw [if_pos (by rfl), if_neg]
        intro h
        have h2 : p.1 = e.1 := str_eq.1 h
        exact hh ⟨p.2, by rw [hsj, ← h2]⟩
theorem ev_l0 {l : List Int} (hb : Bytes l) (d : Nat) : ∀ (i : Nat) (acc : List Sl), l.length = 16 * (i + d) → i + d ≤ 240 → acc.length = i →
    Ev (fun k => moatref12_Slots.l0 k l (acc.map slotOf) ((16 * i : Nat) : Int)) (ansS (slotsGo l d i acc)) := by
  induction d with
  | zero =>
    intro i acc hl hi ha
    refine Ev.step (f := fun _ => some (acc.map slotOf, true)) (fun k => ?_) (Ev.now _)
    simp only [moatref12_Slots.l0]
    rw [if_neg (by omega)]
  | succ d ih =>
    intro i acc hl hi ha
    have hw : wrap64 (((16 * i : Nat) : Int) + 16) = ((16 * i + 16 : Nat) : Int) := w_nat (16 * i) 16 (by omega)
    have he : (l.take (((16 * i + 16 : Nat) : Int).toNat)).drop (((16 * i : Nat) : Int).toNat) = entL l i := by
      rw [Int.toNat_natCast, Int.toNat_natCast]
      unfold entL
      rw [← List.take_drop]
    have hbe : Bytes (entL l i) := (hb.drop _).take _
    have hn : wrap64 (((16 * i : Nat) : Int) + 16) = ((16 * (i + 1) : Nat) : Int) := by rw [hw]; congr 1
    have key : ∀ r, Ev (fun k => (moatref12_Take.f k (entL l i)).bind fun bt126 => (if bt126.2.2.2 = 0 then (moatref12_Slots.l1 k l (acc.map slotOf) ((16 * i : Nat) : Int) bt126.2.2.1 0 bt126.1 bt126.2.1) else (some (([] : List (S67)), false)))) r → Ev (fun k => moatref12_Slots.l0 k l (acc.map slotOf) ((16 * i : Nat) : Int)) r := by
      intro r h
      refine Ev.step (fun k => ?_) h
      simp only [moatref12_Slots.l0]
      rw [if_pos (by omega), if_pos (by omega), hw, if_pos (by omega), if_pos (by omega), he]
    refine key _ (Ev.bind (a := takeA (entL l i)) ⟨1, fun k hk => rtake_eq k hbe hk⟩ ?_)
    simp only [slotsGo]
    unfold takeA
    cases hT : takeO (entL l i) with
    | none => exact Ev.congr (f := fun _ => some ([], false)) (fun k => if_neg (by decide)) (Ev.now _)
    | some o =>
      cases o with
      | none =>
        refine Ev.congr (fun k => if_pos rfl) ?_
        refine ev_l1_free l _ acc (by omega) _ ?_ acc.length 0 (by omega)
        rw [hn]
        exact ih (i + 1) _ (by omega) (by omega) (by simp; omega)
      | some e =>
        refine Ev.congr (fun k => if_pos rfl) ?_
        by_cases hm : e.1 ∈ names acc
        · simp only
          rw [if_pos hm]
          exact ev_l1_hit l _ acc (by omega) e acc.length 0 (by omega) hm
        · simp only
          rw [if_neg hm]
          refine ev_l1_miss l _ acc (by omega) e hm _ ?_ acc.length 0 (by omega)
          rw [hn]
          exact ih (i + 1) _ (by omega) (by omega) (by simp; omega)
theorem slots_ev {l : List Int} (hb : Bytes l) : Ev (fun k => moatref12_Slots.f k l) (ansS (dirO l)) := by
  unfold dirO
  by_cases h : l.length % 16 = 0 ∧ l.length ≤ 3840
  · rw [if_pos h]
    have := ev_l0 hb (l.length / 16) 0 [] (by omega) (by omega) rfl
    refine Ev.congr (f := fun k => moatref12_Slots.j0 k l false) (fun k => ?_) (Ev.step (fun k => ?_) this)
    · unfold moatref12_Slots.f
      rw [if_pos (by omega), decide_eq_false (by omega)]
    · simp only [moatref12_Slots.j0]
      rw [if_neg (by decide)]; rfl
  · rw [if_neg h]
    refine Ev.congr (f := fun k => moatref12_Slots.j0 k l true) (fun k => ?_) (Ev.step (f := fun _ => some ([], false)) (fun k => ?_) (Ev.now _))
    · unfold moatref12_Slots.f
      by_cases h1 : l.length % 16 = 0
      · rw [if_pos (by omega), decide_eq_true (by omega)]
      · rw [if_neg (by omega)]
    · simp only [moatref12_Slots.j0]
      rw [if_pos trivial]

/-! All -/
theorem ev_all_l0 (s : List Sl) (hs : s.length ≤ 240) (d : Nat) : ∀ j : Nat, j + d = s.length → Ev (fun k => moatref12_All.l0 k (s.map slotOf) (entsOf (s.take j)) (j : Int)) (entsOf s, 0) := by
  induction d with
  | zero =>
    intro j hj
    refine Ev.step (f := fun _ => some (entsOf s, 0)) (fun k => ?_) (Ev.now _)
    simp only [moatref12_All.l0]
    rw [if_neg (by rw [List.length_map]; omega), List.take_of_length_le (by omega)]
  | succ d ih =>
    intro j hj
    have hlt : j < s.length := by omega
    refine Ev.step (fun k => ?_) (ih (j + 1) (by omega))
    simp only [moatref12_All.l0]
    have hle := entsOf_le (s.take j)
    rw [List.length_take] at hle
    rw [if_pos (by rw [List.length_map]; omega), if_pos (by omega), rd_slot s j hlt, w_one j (by omega)]
    have ht : s.take (j + 1) = s.take j ++ [s[j]] := List.take_succ_eq_append_getElem hlt
    rw [ht]
    cases hsj : s[j] with
    | none => rw [if_neg (by simp [slotOf]), entsOf_none]
    | some p => rw [if_pos (by rfl), if_pos (by omega), entsOf_some]; rfl
theorem all_ev {l : List Int} (hb : Bytes l) : Ev (fun k => moatref12_All.f k l) (allA l) := by
  unfold moatref12_All.f
  refine Ev.bind (slots_ev hb) ?_
  unfold allA
  cases hd : dirO l with
  | none => exact Ev.congr (f := fun _ => some ([], 121)) (fun k => if_neg (by simp [Md.ansS])) (Ev.now _)
  | some s =>
    refine Ev.congr (fun k => if_pos (by rfl)) ?_
    exact ev_all_l0 s (dir_good hd).2.room s.length 0 (by omega)

/-! Find -/
theorem rd_ent (xs : List S23) (j : Nat) (h : j < xs.length) : rd_T23 xs (j : Int) = xs[j] := by
  unfold rd_T23
  rw [Int.toNat_natCast, List.getD_eq_getElem?_getD, List.getElem?_eq_getElem h]; rfl
def findE (n : ByteArray) : List S23 → Option Int
  | [] => none
  | e :: r => if e.f0 = n then some e.f1 else findE n r
theorem findE_ents (n : ByteArray) (s : List Sl) : findE n (entsOf s) = findGo n s := by
  induction s with
  | nil => rfl
  | cons o r ih =>
    cases o with
    | none => exact ih
    | some e =>
      show (if e.1 = n then some e.2 else findE n (entsOf r)) = (if e.1 = n then some e.2 else findGo n r)
      rw [ih]
theorem ev_find_l0 (n : ByteArray) (xs : List S23) (hs : xs.length ≤ 240) (d : Nat) : ∀ j : Nat, j + d = xs.length → Ev (fun k => moatref12_Find.l0 k n xs (j : Int)) (findR (findE n (xs.drop j))) := by
  induction d with
  | zero =>
    intro j hj
    refine Ev.step (f := fun _ => some (0, false)) (fun k => ?_) ?_
    · simp only [moatref12_Find.l0]
      rw [if_neg (by omega)]
    · rw [List.drop_of_length_le (by omega)]; exact Ev.now _
  | succ d ih =>
    intro j hj
    have hlt : j < xs.length := by omega
    rw [List.drop_eq_getElem_cons hlt]
    by_cases he : xs[j].f0 = n
    · refine Ev.step (f := fun _ => some (xs[j].f1, true)) (fun k => ?_) ?_
      · simp only [moatref12_Find.l0]
        rw [if_pos (by omega), if_pos (by omega), rd_ent xs j hlt, if_pos (str_eq.2 he)]
      · rw [show findE n (xs[j] :: xs.drop (j + 1)) = some xs[j].f1 from if_pos he]; exact Ev.now _
    · rw [show findE n (xs[j] :: xs.drop (j + 1)) = findE n (xs.drop (j + 1)) from if_neg he]
      refine Ev.step (fun k => ?_) (ih (j + 1) (by omega))
      simp only [moatref12_Find.l0]
      rw [if_pos (by omega), if_pos (by omega), rd_ent xs j hlt, if_neg (fun h => he (str_eq.1 h)), w_one j (by omega)]
theorem find_ev {l : List Int} (hb : Bytes l) (n : ByteArray) : Ev (fun k => moatref12_Find.f k l n) (findA l n) := by
  unfold moatref12_Find.f
  refine Ev.bind (all_ev hb) ?_
  unfold findA allA
  cases hd : dirO l with
  | none => exact ev_find_l0 n [] (by simp) 0 0 rfl
  | some s =>
    have hle := entsOf_le s
    have := (dir_good hd).2.room
    have h := ev_find_l0 n (entsOf s) (by omega) (entsOf s).length 0 (by omega)
    rw [List.drop_zero, findE_ents] at h
    exact h

/-! Bytes -/
theorem ev_bytes_l0 (s : List Sl) (hs : s.length ≤ 240) (hok : AllOk s) (d : Nat) : ∀ j : Nat, j + d = s.length → Ev (fun k => moatref12_Bytes.l0 k (s.map slotOf) (bytesS (s.take j)) (j : Int)) (bytesS s) := by
  induction d with
  | zero =>
    intro j hj
    refine Ev.step (f := fun _ => some (bytesS s)) (fun k => ?_) (Ev.now _)
    simp only [moatref12_Bytes.l0]
    rw [if_neg (by rw [List.length_map]; omega), List.take_of_length_le (by omega)]
  | succ d ih =>
    intro j hj
    have hlt : j < s.length := by omega
    refine Ev.step (fun k => ?_) (ih (j + 1) (by omega))
    have hl := bytesS_len (hok.take j)
    rw [List.length_take] at hl
    simp only [moatref12_Bytes.l0]
    rw [if_pos (by rw [List.length_map]; omega), if_pos (by decide), Option.bind_some, if_pos (by omega), rd_slot s j hlt, w_one j (by omega)]
    have ht : s.take (j + 1) = s.take j ++ [s[j]] := List.take_succ_eq_append_getElem hlt
    rw [ht, bytesS_append]
    cases hsj : s[j] with
    | none =>
      rw [if_neg (by simp [slotOf]), if_pos (by rw [List.length_replicate]; omega)]
      simp [bytesS, slotB, zeros]
    | some p =>
      have hp : okE p := hok p (by rw [← hsj]; exact List.getElem_mem hlt)
      rw [if_pos (by rfl)]
      show ((some (La.layA p.1 p.2)).bind _) = _
      rw [layA_right hp.1 hp.2.1 hp.2.2, Option.bind_some]
      have := La.layL_len p.1 p.2 hp.size.2
      rw [if_pos (by show (bytesS (s.take j)).length + (La.layL p.1 p.2).length < _; omega)]
      simp [bytesS, slotB]
theorem bytes_ev (s : List Sl) (hs : s.length ≤ 240) (hok : AllOk s) : Ev (fun k => moatref12_Bytes.f k (s.map slotOf)) (bytesS s) := by
  have := ev_bytes_l0 s hs hok s.length 0 (by omega)
  exact this

/-! Add -/
theorem ev_add_j1 (l : List Int) (s : List Sl) (e : ByteArray × Int) (hl : l.length = 16 * s.length) (hs : s.length ≤ 240) (hok : AllOk s) (he : okE e) (F : Option Nat) (j : Nat) (hF : (F = some j ∧ j < s.length) ∨ (F = none ∧ j = s.length)) :
    Ev (fun k => moatref12_Add.j1 k l (s.map slotOf) (j : Int) e.1 e.2) (fillS s e F) := by
  rcases hF with ⟨rfl, hj⟩ | ⟨rfl, rfl⟩
  · refine Ev.step (fun k => ?_) (Ev.bind (f := fun _ t => some (t, (0 : Int))) (bytes_ev (s.set j (some e)) (by simp; omega) (hok.set j (fun e' h => by injection h with h; rw [← h]; exact he))) (Ev.now _))
    simp only [moatref12_Add.j1]
    rw [if_pos (by rw [List.length_map]; omega), if_pos (by omega), Int.toNat_natCast, List.map_set]; rfl
  · unfold fillS
    by_cases h : s.length < 240
    · simp only
      rw [if_pos h]
      refine Ev.step (fun k => ?_) (Ev.bind (f := fun _ t => some (t, (0 : Int))) (bytes_ev (s ++ [some e]) (by simp; omega) (hok.append (.one he))) (Ev.now _))
      simp only [moatref12_Add.j1]
      rw [if_neg (by rw [List.length_map]; omega), if_neg (by unfold wrap64; omega), if_pos (by rw [List.length_map]; omega), List.map_append]; rfl
    · simp only
      rw [if_neg h]
      refine Ev.step (f := fun _ => some ([], 5)) (fun k => ?_) (Ev.now _)
      simp only [moatref12_Add.j1]
      rw [if_neg (by rw [List.length_map]; omega), if_pos (by unfold wrap64; omega)]
theorem ev_add_l0 (l : List Int) (s : List Sl) (e : ByteArray × Int) (hl : l.length = 16 * s.length) (hs : s.length ≤ 240) (hok : AllOk s) (he : okE e) (d : Nat) : ∀ j : Nat, j + d = s.length →
    Ev (fun k => moatref12_Add.l0 k l (s.map slotOf) (j : Int) e.1 e.2) (fillS s e (freeGo (s.drop j) j)) := by
  induction d with
  | zero =>
    intro j hj
    refine Ev.step (fun k => ?_) (ev_add_j1 l s e hl hs hok he _ j (.inr ⟨by rw [List.drop_of_length_le (by omega)]; rfl, by omega⟩))
    simp only [moatref12_Add.l0]
    rw [if_neg (by rw [List.length_map]; omega)]
  | succ d ih =>
    intro j hj
    have hlt : j < s.length := by omega
    cases hsj : s[j] with
    | none =>
      refine Ev.step (fun k => ?_) (ev_add_j1 l s e hl hs hok he _ j (.inl ⟨freeGo_drop_none hlt hsj, hlt⟩))
      simp only [moatref12_Add.l0]
      rw [if_pos (by rw [List.length_map]; omega), if_pos (by omega), rd_slot s j hlt, hsj, if_neg (by simp [slotOf])]
    | some p =>
      rw [freeGo_drop_some hlt hsj]
      refine Ev.step (fun k => ?_) (ih (j + 1) (by omega))
      simp only [moatref12_Add.l0]
      rw [if_pos (by rw [List.length_map]; omega), if_pos (by omega), rd_slot s j hlt, hsj, if_pos (by rfl), w_one j (by omega)]
theorem add_ev {l : List Int} (hb : Bytes l) (n : ByteArray) (i : Int) : Ev (fun k => moatref12_Add.f k l n i) (addA l n i) := by
  unfold moatref12_Add.f
  refine Ev.bind (slots_ev hb) ?_
  unfold addA
  cases hd : dirO l with
  | none => exact Ev.congr (f := fun _ => some ([], 121)) (fun k => if_neg (by simp [Md.ansS])) (Ev.now _)
  | some s =>
    obtain ⟨hl, hg⟩ := dir_good hd
    refine Ev.congr (fun k => if_pos (by rfl)) ?_
    refine Ev.bind (a := La.layA n i) (Ev.now _) ?_
    simp only
    unfold addS
    by_cases h0 : (La.layA n i).2 = 0
    · rw [if_pos h0]
      refine Ev.congr (fun k => if_pos h0) ?_
      obtain ⟨k1, k2, k3, k4⟩ := layA_ok (show La.layA n i = ((La.layA n i).1, 0) from Prod.ext rfl h0)
      have hfa : findA l n = findR (findGo n s) := by unfold findA; rw [hd]
      have hfe := find_ev hb n
      rw [hfa] at hfe
      rcases place_cases n s with ⟨h1, h2, h3⟩ | ⟨j, i', hj, h1, h2, h3⟩
      · rw [h2] at hfe
        refine Ev.bind hfe ?_
        rw [if_neg (by omega)]
        refine Ev.congr (fun k => if_neg (by simp [findR])) ?_
        have := ev_add_l0 l s (n, i) (by rw [hl]; exact bytesS_len hg.ok) hg.room hg.ok ⟨k1, k2, k3⟩ s.length 0 (by omega)
        rw [List.drop_zero] at this
        exact this
      · rw [h3] at hfe
        refine Ev.bind hfe ?_
        rw [if_pos (by omega)]
        exact Ev.congr (f := fun _ => some ([], 3)) (fun k => if_pos (by rfl)) (Ev.now _)
    · rw [if_neg h0]
      exact Ev.congr (f := fun _ => some ([], (La.layA n i).2)) (fun k => if_neg h0) (Ev.now _)

/-! Remove -/
theorem ev_rm_l1 (t : List Sl) (ht : t.length ≤ 240) (hok : AllOk t) (m : Nat) : m ≤ t.length → Ev (fun k => moatref12_Remove.l1 k ((t.take m).map slotOf)) (bytesS (trimGo t m), 0) := by
  induction m with
  | zero =>
    intro hm
    refine Ev.step (fun k => ?_) (Ev.bind (f := fun _ t => some (t, (0 : Int))) (bytes_ev (t.take 0) (by simp) (hok.take 0)) (Ev.now _))
    simp only [moatref12_Remove.l1]
    rw [if_neg (by simp)]
  | succ m ih =>
    intro hm
    have hl : ((t.take (m + 1)).map slotOf).length = m + 1 := by rw [List.length_map, List.length_take]; omega
    have hw : wrap64 ((((t.take (m + 1)).map slotOf).length : Int) - 1) = (m : Int) := by rw [hl]; unfold wrap64; omega
    have hlt : m < t.length := by omega
    have hr : rd_T67 ((t.take (m + 1)).map slotOf) (m : Int) = slotOf t[m] := by
      rw [rd_slot _ m (by rw [List.length_take]; omega)]
      congr 1
      exact List.getElem_take
    cases hsm : t[m] with
    | none =>
      rw [show trimGo t (m + 1) = trimGo t m from if_pos (by rw [List.getElem?_eq_getElem hlt, hsm])]
      refine Ev.step (fun k => ?_) (ih (by omega))
      simp only [moatref12_Remove.l1]
      rw [if_pos (by rw [hl]; omega), hw, if_pos (by omega), if_pos (by rw [hl]; omega), hr, hsm, if_neg (by simp [slotOf]), if_pos (by rw [hl]; omega), Int.toNat_natCast, ← List.map_take, List.take_take, Nat.min_eq_left (by omega)]
    | some p =>
      rw [show trimGo t (m + 1) = t.take (m + 1) from if_neg (by rw [List.getElem?_eq_getElem hlt, hsm]; simp)]
      refine Ev.step (fun k => ?_) (Ev.bind (f := fun _ t => some (t, (0 : Int))) (bytes_ev (t.take (m + 1)) (by rw [List.length_take]; omega) (hok.take _)) (Ev.now _))
      simp only [moatref12_Remove.l1]
      rw [if_pos (by rw [hl]; omega), hw, if_pos (by omega), if_pos (by rw [hl]; omega), hr, hsm, if_pos (by rfl)]
/-- Behind the last slot of that name. -/
theorem ev_rm_after (n : ByteArray) (s : List Sl) (hs : s.length ≤ 240) (x8 : Bool) (r : List Int × Int) (h : Ev (fun k => if x8 = true then (moatref12_Remove.l1 k (s.map slotOf)) else (some (([] : List Int), 2))) r) (d : Nat) : ∀ j : Nat, j + d = s.length → n ∉ names (s.drop j) →
    Ev (fun k => moatref12_Remove.l0 k n (s.map slotOf) x8 (j : Int)) r := by
  induction d with
  | zero =>
    intro j hj _
    refine Ev.step (fun k => ?_) h
    simp only [moatref12_Remove.l0]
    rw [if_neg (by rw [List.length_map]; omega)]
  | succ d ih =>
    intro j hj hm
    have hlt : j < s.length := by omega
    have hm2 : n ∉ names (s.drop (j + 1)) := fun h => hm (by
      obtain ⟨i, hi⟩ := names_mem.1 h
      exact names_mem.2 ⟨i, by rw [List.drop_eq_getElem_cons hlt]; exact List.mem_cons_of_mem _ hi⟩)
    refine Ev.step (fun k => ?_) (ih (j + 1) (by omega) hm2)
    simp only [moatref12_Remove.l0]
    rw [if_pos (by rw [List.length_map]; omega), if_pos (by omega), rd_slot s j hlt, w_one j (by omega)]
    cases hsj : s[j] with
    | none => rw [if_neg (by simp [slotOf])]
    | some p =>
      rw [if_pos (by rfl), if_neg]
      intro h
      have h2 : p.1 = n := str_eq.1 h
      exact hm (names_mem.2 ⟨p.2, by rw [List.drop_eq_getElem_cons hlt, hsj, ← h2]; simp⟩)
theorem ev_rm_hit (n : ByteArray) (s : List Sl) (hs : s.length ≤ 240) (hn : (names s).Nodup) {q : Nat} {i : Int} (hq : q < s.length) (hqs : s[q] = some (n, i)) (r : List Int × Int) (h : Ev (fun k => moatref12_Remove.l1 k ((s.set q none).map slotOf)) r) (d : Nat) : ∀ j : Nat, j + d = q →
    Ev (fun k => moatref12_Remove.l0 k n (s.map slotOf) false (j : Int)) r := by
  have e : s = s.take q ++ some (n, i) :: s.drop (q + 1) := by rw [← hqs, ← List.drop_eq_getElem_cons hq, List.take_append_drop]
  have e2 : names s = names (s.take q) ++ n :: names (s.drop (q + 1)) := by
    conv => lhs; rw [e]
    rw [names_append]; simp [names]
  rw [e2, List.nodup_append, List.nodup_cons] at hn
  induction d with
  | zero =>
    intro j hj
    obtain rfl : j = q := by omega
    have h2 := ev_rm_after n (s.set j none) (by simp; omega) true r h (s.length - (j + 1)) (j + 1) (by simp; omega) (by
      rw [List.drop_set_of_lt (by omega)]; exact hn.2.1.1)
    refine Ev.step (fun k => ?_) h2
    simp only [moatref12_Remove.l0]
    rw [if_pos (by rw [List.length_map]; omega), if_pos (by omega), rd_slot s j hq, w_one j (by omega), hqs, if_pos (by rfl), if_pos (by rfl), Int.toNat_natCast, List.map_set]; rfl
  | succ d ih =>
    intro j hj
    have hlt : j < s.length := by omega
    refine Ev.step (fun k => ?_) (ih (j + 1) (by omega))
    simp only [moatref12_Remove.l0]
    rw [if_pos (by rw [List.length_map]; omega), if_pos (by omega), rd_slot s j hlt, w_one j (by omega)]
    cases hsj : s[j] with
    | none => rw [if_neg (by simp [slotOf])]
    | some p =>
      rw [if_pos (by rfl), if_neg]
      intro h
      have h2 : p.1 = n := str_eq.1 h
      refine hn.2.2 n (names_mem.2 ⟨p.2, ?_⟩) n (by simp) rfl
      rw [← h2, ← hsj]
      exact List.mem_take_iff_getElem.2 ⟨j, by omega, rfl⟩
theorem remove_ev {l : List Int} (hb : Bytes l) (n : ByteArray) : Ev (fun k => moatref12_Remove.f k l n) (removeA l n) := by
  unfold moatref12_Remove.f
  refine Ev.bind (slots_ev hb) ?_
  unfold removeA
  cases hd : dirO l with
  | none => exact Ev.congr (f := fun _ => some ([], 121)) (fun k => if_neg (by simp [Md.ansS])) (Ev.now _)
  | some s =>
    obtain ⟨hl, hg⟩ := dir_good hd
    have hroom := hg.room
    refine Ev.congr (fun k => if_pos (by rfl)) ?_
    simp only
    unfold removeS
    rcases place_cases n s with ⟨h1, h2, h3⟩ | ⟨j, i', hj, h1, h2, h3⟩
    · rw [if_neg (by omega)]
      exact ev_rm_after n s hroom false _ (Ev.congr (f := fun _ => some ([], 2)) (fun k => if_neg (by decide)) (Ev.now _)) s.length 0 (by omega) h3
    · rw [if_pos (by omega), h1, Int.toNat_natCast]
      refine ev_rm_hit n s hroom hg.apart hj h2 _ ?_ j 0 (by omega)
      have := ev_rm_l1 (s.set j none) (by simp; omega) (hg.ok.set j (fun e h => by cases h)) (s.set j none).length (Nat.le_refl _)
      rw [List.take_of_length_le (Nat.le_refl _)] at this
      exact this

/-! Same -/
theorem ev_same_l0 (xs : List S23) (hs : xs.length ≤ 240) (d : Nat) : ∀ j : Nat, j + d = xs.length → Ev (fun k => moatref12_Same.l0 k xs xs (j : Int)) true := by
  induction d with
  | zero =>
    intro j hj
    refine Ev.step (f := fun _ => some true) (fun k => ?_) (Ev.now _)
    simp only [moatref12_Same.l0]
    rw [if_neg (by omega)]
  | succ d ih =>
    intro j hj
    refine Ev.step (fun k => ?_) (ih (j + 1) (by omega))
    simp only [moatref12_Same.l0]
    rw [if_pos (by omega), if_pos (by omega), if_pos (by omega), w_one j (by omega), if_neg (by simp)]
theorem same_ev (xs : List S23) (hs : xs.length ≤ 240) : Ev (fun k => moatref12_Same.f k xs xs) true := by
  refine Ev.congr (fun k => ?_) (ev_same_l0 xs hs xs.length 0 (by omega))
  unfold moatref12_Same.f
  rw [if_pos rfl]; rfl
end Go.Proofs.Ytinfjmdcmfpdiaa.Md

/- entry.Find: every row of bytes, every name. -/
namespace Go.Proofs.Ytinfjmdcmfpdiaa.Fn
open Go.RowKit Go.Proofs.Ytinfjmdcmfpdiaa.Rt Go.Proofs.Ytinfjmdcmfpdiaa.Md Go.Proofs.Ytinfjmdcmfpdiaa.Al Go.Proofs.Ytinfjmdcmfpdiaa.Pc Go.Proofs.YtinfjmdcmfpdiaaW.PrintWords Go.Proofs.YtinfjmdcmfpdiaaW.PrintLast Go.Proofs.YtinfjmdcmfpdiaaW.PrintMore
set_option linter.unusedVariables false
set_option linter.unusedSimpArgs false

theorem allA_none {l : List Int} (h : dirO l = none) : allA l = ([], 121) := by unfold allA; rw [h]; rfl
theorem allA_some {l : List Int} {s : List Sl} (h : dirO l = some s) : allA l = (entsOf s, 0) := by unfold allA; rw [h]; rfl
/-- entry.All in the two cases. -/
theorem all_no (A0 : Option Addr) (c0 : Nat) (l0 : List Int) (w : World) (hb : Bytes l0) (hr0 : Kd.C (Kd.int .u8) w A0 l0.length l0) (hc0 : l0.length ≤ c0) (hd : dirO l0 = none) :
    Calls Try.prog 23 #[.slice A0 l0.length c0] w fun e w' => ∃ v : Value, e = .returned (.tuple #[v, .int .i64 121]) ∧ Kd.R D.k23 23 w' w.heap.size (fun _ => True) v [] ∧ Below w.heap.size w w' := by
  have h := all_any A0 c0 l0 w hb hr0 hc0
  rw [allA_none hd] at h
  exact h
theorem all_yes (A0 : Option Addr) (c0 : Nat) (l0 : List Int) (w : World) (hb : Bytes l0) (hr0 : Kd.C (Kd.int .u8) w A0 l0.length l0) (hc0 : l0.length ≤ c0) {s : List Sl} (hd : dirO l0 = some s) :
    Calls Try.prog 23 #[.slice A0 l0.length c0] w fun e w' => ∃ v : Value, e = .returned (.tuple #[v, .int .i64 0]) ∧ Kd.R D.k23 23 w' w.heap.size (fun _ => True) v (entsOf s) ∧ Below w.heap.size w w' := by
  have h := all_any A0 c0 l0 w hb hr0 hc0
  rw [allA_some hd] at h
  exact h
theorem place_yes (A0 : Option Addr) (c0 : Nat) (l0 : List Int) (n : ByteArray) (w : World) (hn : n.size ≤ maxLen) {s : List Sl} (hd : dirO l0 = some s) (hr0 : Kd.C (Kd.int .u8) w A0 l0.length l0) (hc0 : l0.length ≤ c0) {p : Int} (hp : placeA s n = p) :
    Calls Try.prog 35 #[.slice A0 l0.length c0, .string n] w fun e w' => e = .returned (.int .i64 p) ∧ Below w.heap.size w w' := by
  obtain ⟨h1, h2⟩ := dir_good hd
  have h := place_any A0 c0 l0 n s w hn h2.ok h2.room h1 hr0 hc0
  rw [hp] at h
  exact h

set_option maxHeartbeats 2000000 in
set_option maxRecDepth 100000 in
theorem find_no (A0 : Option Addr) (c0 : Nat) (l0 : List Int) (n : ByteArray) (w : World) (hb : Bytes l0) (hr0 : Kd.C (Kd.int .u8) w A0 l0.length l0) (hc0 : l0.length ≤ c0) (hd : dirO l0 = none) :
    Calls Try.prog 25 #[.slice A0 l0.length c0, .string n] w fun e w' => e = .returned (.tuple #[.int .i64 0, .bool false]) ∧ Below w.heap.size w w' := by
  have HR := Lib.hid hr0
  have HB := Lib.hid hb
  have HD := Lib.hid hd
  clear hb hr0 hd
  go_enter Try.func25, Try.ntmps25
  go_wp2_with fail
  refine (all_no A0 c0 l0 _ HB.out HR.out hc0 HD.out).mono ?_
  rintro e w1 ⟨v, rfl, -, hb⟩
  have hB := Lib.hid hb
  clear hb
  go_wp2_with fail
  go_ret2
  exact ⟨rfl, hB.out⟩

set_option maxHeartbeats 2000000 in
set_option maxRecDepth 100000 in
theorem find_miss (A0 : Option Addr) (c0 : Nat) (l0 : List Int) (n : ByteArray) (w : World) (hn : n.size ≤ maxLen) (hb : Bytes l0) (hr0 : Kd.C (Kd.int .u8) w A0 l0.length l0) (hc0 : l0.length ≤ c0) {s : List Sl} (hd : dirO l0 = some s) (hp : placeA s n = -1) :
    Calls Try.prog 25 #[.slice A0 l0.length c0, .string n] w fun e w' => e = .returned (.tuple #[.int .i64 0, .bool false]) ∧ Below w.heap.size w w' := by
  have HR := Lib.hid hr0
  have HB := Lib.hid hb
  have HD := Lib.hid hd
  have HP := Lib.hid hp
  clear hb hr0 hd hp
  go_enter Try.func25, Try.ntmps25
  go_wp2_with fail
  refine (all_yes A0 c0 l0 _ HB.out HR.out hc0 HD.out).mono ?_
  rintro e w1 ⟨v, rfl, -, hb⟩
  have hB := Lib.hid hb
  clear hb
  go_wp2_with fail
  refine (place_yes A0 c0 l0 n _ hn HD.out (Kd.C_below HR.out hB.out) hc0 HP.out).mono ?_
  rintro e w2 ⟨rfl, hb⟩
  replace hB := Lib.hid (below_step hB.out hb)
  clear hb
  go_wp2_with fail
  go_ret2
  exact ⟨rfl, hB.out⟩

set_option maxHeartbeats 2000000 in
set_option maxRecDepth 100000 in
theorem find_hit (A0 : Option Addr) (c0 : Nat) (l0 : List Int) (n : ByteArray) (w : World) (hn : n.size ≤ maxLen) (hb : Bytes l0) (hr0 : Kd.C (Kd.int .u8) w A0 l0.length l0) (hc0 : l0.length ≤ c0) {s : List Sl} (hd : dirO l0 = some s) {j : Nat} {i : Int} (hj : j < s.length) (hp : placeA s n = (j : Int)) (hs : s[j] = some (n, i)) :
    Calls Try.prog 25 #[.slice A0 l0.length c0, .string n] w fun e w' => e = .returned (.tuple #[.int .i64 i, .bool true]) ∧ Below w.heap.size w w' := by
  obtain ⟨hl, hg⟩ := dir_good hd
  have hlen : Hid (l0.length = 16 * s.length) := Lib.hid (by rw [hl]; exact bytesS_len hg.ok)
  have hroom := hg.room
  have hok : okE (n, i) := hg.ok _ (by rw [← hs]; exact List.getElem_mem hj)
  have hi0 : 0 ≤ i := hok.2.1
  have hi1 : i < 64 := hok.2.2
  have b1 : decide ((j : Int) < 0) = false := decide_eq_false (by omega)
  have HR := Lib.hid hr0
  have HB := Lib.hid hb
  have HD := Lib.hid hd
  have HP := Lib.hid hp
  have HL := Lib.hid hl
  have HS := Lib.hid hs
  obtain ⟨ad, rfl⟩ : ∃ ad, A0 = some ad := by obtain ⟨ad, e, _⟩ := hr0.2.2 (by have := hlen.out; omega); exact ⟨ad, e⟩
  obtain ⟨adk, hadk⟩ : ∃ a, a = ad.add (j * 16) := ⟨_, rfl⟩
  replace hadk := Lib.hid hadk
  clear hb hr0 hd hp hl hs
  go_enter Try.func25, Try.ntmps25
  go_wp2_with fail
  refine (all_yes (some ad) c0 l0 _ HB.out HR.out hc0 HD.out).mono ?_
  rintro e w1 ⟨v, rfl, -, hb⟩
  have hB := Lib.hid hb
  clear hb
  go_wp2_with fail
  refine (place_yes (some ad) c0 l0 n _ hn HD.out (Kd.C_below HR.out hB.out) hc0 HP.out).mono ?_
  rintro e w2 ⟨rfl, hb⟩
  replace hB := Lib.hid (below_step hB.out hb)
  clear hb
  obtain ⟨-, -, g2⟩ := cell_ent (ent_slot HR.out hc0 hB.out HL.out hg.ok hj hadk.out) HS.out hok
  clear hok
  go_wp2_with fail
  refine (at_e ad adk l0.length c0 j (by have := hlen.out; omega) hc0 (by have := hlen.out; omega) hadk _).mono ?_
  rintro e w3 ⟨rfl, hw⟩
  subst hw
  go_wp2_with fail
  go_ret2
  exact ⟨rfl, hB.out⟩

theorem find_any (A0 : Option Addr) (c0 : Nat) (l0 : List Int) (n : ByteArray) (w : World) (hn : n.size ≤ maxLen) (hb : Bytes l0) (hr0 : Kd.C (Kd.int .u8) w A0 l0.length l0) (hc0 : l0.length ≤ c0) :
    Calls Try.prog 25 #[.slice A0 l0.length c0, .string n] w fun e w' => e = .returned (.tuple #[.int .i64 (findA l0 n).1, .bool (findA l0 n).2]) ∧ Below w.heap.size w w' := by
  unfold findA
  cases hd : dirO l0 with
  | none => exact find_no A0 c0 l0 n w hb hr0 hc0 hd
  | some s =>
    rcases place_cases n s with ⟨h1, h2, h3⟩ | ⟨j, i, hj, h1, h2, h3⟩
    · simp only; rw [h2]; exact find_miss A0 c0 l0 n w hn hb hr0 hc0 hd h1
    · simp only; rw [h3]; exact find_hit A0 c0 l0 n w hn hb hr0 hc0 hd hj h1 h2
end Go.Proofs.Ytinfjmdcmfpdiaa.Fn

/- copy of bytes into the middle of a row of one's own, as a run; entry.at and entry.free on such a row. -/
namespace Go.Proofs.Ytinfjmdcmfpdiaa.Cp
open Go.RowKit Go.Proofs.Ytinfjmdcmfpdiaa.Rt Go.Proofs.Ytinfjmdcmfpdiaa.Md Go.Proofs.Ytinfjmdcmfpdiaa.Al Go.Proofs.Ytinfjmdcmfpdiaa.Pc Go.Proofs.YtinfjmdcmfpdiaaW.PrintWords Go.Proofs.YtinfjmdcmfpdiaaW.PrintLast Go.Proofs.YtinfjmdcmfpdiaaW.PrintMore
set_option linter.unusedVariables false
set_option linter.unusedSimpArgs false

theorem C_lenx' {w : World} {A : Option Addr} {m : Nat} {xs : List Int} (h : xs.length = m) (hC : Go.Proofs.YtinfjmdcmfpdiaaW.PrintWords.Kd.C (Go.Proofs.YtinfjmdcmfpdiaaW.PrintWords.Kd.int .u8) w A xs.length xs) : Go.Proofs.YtinfjmdcmfpdiaaW.PrintWords.Kd.C (Go.Proofs.YtinfjmdcmfpdiaaW.PrintWords.Kd.int .u8) w A m xs := h ▸ hC
theorem take_splice {α : Type} (L : List α) (xs ys : List α) (o n : Nat) (hL : L.take n = xs) (hn : xs.length = n) (hf : o + ys.length ≤ n) :
    (L.take o ++ ys ++ L.drop (o + ys.length)).take n = xs.take o ++ ys ++ xs.drop (o + ys.length) := by
  have hl : n ≤ L.length := by
    have := congrArg List.length hL
    rw [List.length_take] at this
    omega
  have e : L = xs ++ L.drop n := by rw [← hL, List.take_append_drop]
  have h1 : L.take o = xs.take o := by rw [e, List.take_append_of_le_length (by omega)]
  have h2 : L.drop (o + ys.length) = xs.drop (o + ys.length) ++ L.drop n := by
    conv => lhs; rw [e]
    rw [List.drop_append_of_le_length (by omega)]
  rw [h1, h2, ← List.append_assoc, List.take_append_of_le_length, List.take_of_length_le]
  · simp only [List.length_append, List.length_take, List.length_drop]; omega
  · simp only [List.length_append, List.length_take, List.length_drop]; omega

theorem copy_into {W w0 : World} {base g cap o dcap scap : Nat} {ok : Nat → Prop} {a : Addr} {xs ys : List Int} (T : TypeId) (hT : T = 24) (hO : Kd.R (Kd.int .u8) 5 W base ok (.slice (some ⟨g, 0, none⟩) xs.length cap) xs) (hB : Below base w0 W)
    (hy : Kd.C (Kd.int .u8) W (some a) ys.length ys) (hfit : o + ys.length ≤ xs.length) :
    ∃ W' : World, (∀ d s : Nat, ys.length = d → ys.length = s → (Builtin.copy_ #[T, T] 3 #[.slice (some ⟨g, o, none⟩) d dcap, .slice (some a) s scap]).run Try.prog W = .ok (.int .i64 (d : Int)) W') ∧
      Kd.R (Kd.int .u8) 5 W' base ok (.slice (some ⟨g, 0, none⟩) xs.length cap) (xs.take o ++ ys ++ xs.drop (o + ys.length)) ∧ Below base w0 W' ∧ W.grownBy W' (some g) := by
  subst hT
  have hown := Kd.own_of_R hO
  obtain ⟨hlen, hor⟩ := hown
  rcases hor with ⟨h1, -⟩ | ⟨g', cap', cells, h1, hbase, hheap, hfitc, hmax, hsz, htk⟩
  · cases h1
  · injection h1 with h1 h2 h3
    injection h1 with h1
    injection h1 with h1
    subst h1
    obtain ⟨i0, hi, hz0, hz1, hz2⟩ := info_parts Rl.info_u8
    have hcs : (encs (Value.int .u8) ys).length = ys.length := by simp [encs]
    have hrun := run_copy_row (P := Try.prog) W 24 24 3 5 g o ys.length dcap a ys.length scap cells 5 (encs (Value.int .u8) ys) Try.underlying24 (by rw [hi]; simp [hz1]) hheap (by rw [hcs]; simp)
      (fun j v hj => by
        have hjl : j < ys.length := by
          rcases Nat.lt_or_ge j ys.length with h | h
          · exact h
          · rw [List.getElem?_eq_none (by rw [hcs]; exact h)] at hj; cases hj
        rw [ent_cell hy j hjl]
        simp only [encs, List.getElem?_map, List.getElem?_eq_getElem hjl, Option.map_some, Option.some.injEq] at hj
        rw [← hj, List.getD_eq_getElem?_getD, List.getElem?_eq_getElem hjl]; rfl)
      (by rw [hcs]; have := hsz; omega) (fun v hv => by obtain ⟨x, _, rfl⟩ := List.mem_map.1 hv; rfl)
    have hgo : goInt (encs (Value.int .u8) ys).length = .int .i64 (ys.length : Int) := by rw [hcs]; rfl
    rw [hgo] at hrun
    have hl2 : (xs.take o ++ ys ++ xs.drop (o + ys.length)).length = xs.length := by
      simp only [List.length_append, List.length_take, List.length_drop]; omega
    refine ⟨_, fun d s hd hs => by subst hd; subst hs; exact hrun, ?_, below_setRow hB hbase _, ⟨rfl, rfl, rfl, by simp [World.setRow], fun k hk hne => setRow_other W g k _ (fun h => hne (by rw [h]))⟩⟩
    have hR := Kd.R_of_own (enc := Value.int .u8) (h1 := fun _ => rfl) (e := 5) (w := W.setRow g (cells.toList.take o ++ encs (Value.int .u8) ys ++ cells.toList.drop (o + (encs (Value.int .u8) ys).length)).toArray) (base := base) (ok := ok) (v := .slice (some ⟨g, 0, none⟩) xs.length cap) (xs := xs.take o ++ ys ++ xs.drop (o + ys.length))
      (by
        rw [hl2]
        refine ⟨by simp only [encs, List.length_map]; rw [hl2, Nat.mul_one], .inr ⟨g, cap', (cells.toList.take o ++ encs (Value.int .u8) ys ++ cells.toList.drop (o + (encs (Value.int .u8) ys).length)).toArray, by rw [h3], hbase, setRow_heap W g cells _ _ _ hheap, hfitc, hmax, ?_, ?_⟩⟩
        · rw [hcs]
          simp only [List.size_toArray, List.length_append, List.length_take, List.length_drop, Array.length_toList, hcs]
          have := hsz
          simp only [Nat.mul_one] at this ⊢
          omega
        · have := take_splice cells.toList (encs (Value.int .u8) xs) (encs (Value.int .u8) ys) o (xs.length * 1) htk (by simp [encs]) (by rw [hcs]; omega)
          rw [this]
          simp [encs]) hO.1
    exact hR

/-- entry.at on a row of one's own. -/
theorem at_o (g n c i o : Nat) (hi : (i + 1) * 16 ≤ n) (hc : n ≤ c) (hn : n ≤ 100000) (ho : Hid (o = i * 16)) (w : World) :
    Calls Try.prog 36 #[.slice (some ⟨g, 0, none⟩) n c, .int .i64 i] w fun e w' => e = .returned (.slice (some ⟨g, o, none⟩) 16 (c - o)) ∧ w' = w := by
  have h := At.at_any ⟨g, 0, none⟩ n c i hi hc hn w
  rw [add_plain, ← ho.out] at h
  exact h
/-- entry.free on a slot's bytes. -/
theorem free_slot {w : World} {adk : Addr} {s : Sl} {c : Nat} (h : Kd.C (Kd.int .u8) w (some adk) (slotB s).length (slotB s)) (hs : ∀ e, s = some e → okE e) (hc : 16 ≤ c) {r : Bool} (hr : s.isNone = r) :
    Calls Try.prog 33 #[.slice (some adk) 16 c] w fun e w' => e = .returned (.bool r) ∧ Below w.heap.size w w' := by
  have hl : (slotB s).length = 16 := slotB_len (s := [s]) (fun e he => hs e (List.mem_singleton.1 he).symm) (by simp)
  have hb : Bytes (slotB s) := slotB_bytes (s := [s]) (fun e he => hs e (List.mem_singleton.1 he).symm) (by simp)
  have hf : P.entry_free.f (slotB s) = some r := by
    unfold P.entry_free.f
    rw [if_pos (by decide)]
    congr 1
    rw [← hr]
    cases s with
    | none => rw [show (none : Sl).isNone = true from rfl, beq_iff_eq]; rfl
    | some e =>
      rw [show (some e : Sl).isNone = false from rfl, beq_eq_false_iff_ne]
      intro h
      exact layL_ne e.1 e.2 (hs e rfl).size.1 ((str_inj hb (Bytes.zeros 16)).1 h)
  have := P.entry_free.calls (some adk) c (slotB s) r w h (by omega) hf
  rw [hl] at this
  exact this
/-- The k-th slot of a row of one's own. -/
theorem R_ent {w : World} {g o cap base k : Nat} {ok : Nat → Prop} {s : List Sl} {l0 : List Int} (h : Kd.R (Kd.int .u8) 5 w base ok (.slice (some ⟨g, 0, none⟩) l0.length cap) l0) (hL : l0 = bytesS s) (hs : AllOk s) (hk : k < s.length) (ho : o = k * 16) :
    Kd.C (Kd.int .u8) w (some ⟨g, o, none⟩) (slotB s[k]).length (slotB s[k]) := by
  obtain ⟨-, hc, hC⟩ := Kd.R_reads' h
  have := ent_slot (k := k) (adk := ⟨g, o, none⟩) hC hc (Below.refl _ _) hL hs hk (by rw [add_plain, ho])
  exact this
end Go.Proofs.Ytinfjmdcmfpdiaa.Cp

/- entry.Add: every row of bytes, every entry. -/
namespace Go.Proofs.Ytinfjmdcmfpdiaa.Ad
open Go.RowKit Go.Proofs.Ytinfjmdcmfpdiaa.Rt Go.Proofs.Ytinfjmdcmfpdiaa.Md Go.Proofs.Ytinfjmdcmfpdiaa.Al Go.Proofs.Ytinfjmdcmfpdiaa.Pc Go.Proofs.Ytinfjmdcmfpdiaa.Fn Go.Proofs.Ytinfjmdcmfpdiaa.Cp Go.Proofs.YtinfjmdcmfpdiaaW.PrintWords Go.Proofs.YtinfjmdcmfpdiaaW.PrintLast Go.Proofs.YtinfjmdcmfpdiaaW.PrintMore
set_option linter.unusedVariables false
set_option linter.unusedSimpArgs false

def Post (w : World) (r : List Int × Int) (e : Ending) (w' : World) : Prop :=
  ∃ v : Value, e = .returned (.tuple #[v, .int .i64 r.2]) ∧ Kd.R (Kd.int .u8) 5 w' w.heap.size (fun _ => True) v r.1 ∧ Below w.heap.size w w'

set_option maxHeartbeats 2000000 in
set_option maxRecDepth 100000 in
theorem add_no (A0 : Option Addr) (c0 : Nat) (l0 : List Int) (n : ByteArray) (ino : Int) (w : World) (hb : Bytes l0) (hr0 : Kd.C (Kd.int .u8) w A0 l0.length l0) (hc0 : l0.length ≤ c0) (hd : dirO l0 = none) :
    Calls Try.prog 18 #[.slice A0 l0.length c0, .agg #[.string n, .int .i64 ino]] w (Post w ([], 121)) := by
  have HR := Lib.hid hr0
  have HB := Lib.hid hb
  have HD := Lib.hid hd
  clear hb hr0 hd
  go_enter Try.func18, Try.ntmps18
  go_wp2_with fail
  refine (all_no A0 c0 l0 _ HB.out (Kd.C_alloc HR.out _) hc0 HD.out).mono ?_
  rintro e w1 ⟨v, rfl, -, hb⟩
  have hB := Lib.hid (below_step (below_alloc (Below.refl _ _) _) hb)
  clear hb
  go_wp2_with fail
  go_ret2
  exact ⟨_, rfl, Kd.R_nil _ _ _ _ _, hB.out⟩

set_option maxHeartbeats 2000000 in
set_option maxRecDepth 100000 in
theorem add_lay (A0 : Option Addr) (c0 : Nat) (l0 : List Int) (n : ByteArray) (ino : Int) (w : World) (hb : Bytes l0) (hr0 : Kd.C (Kd.int .u8) w A0 l0.length l0) (hc0 : l0.length ≤ c0) {s : List Sl} (hd : dirO l0 = some s) {r : List Int × Int} (hl : La.layA n ino = r) (h0 : r.2 ≠ 0) :
    Calls Try.prog 18 #[.slice A0 l0.length c0, .agg #[.string n, .int .i64 ino]] w (Post w ([], r.2)) := by
  obtain ⟨r1, r2⟩ := r
  have HR := Lib.hid hr0
  have HB := Lib.hid hb
  have HD := Lib.hid hd
  have HL : Hid (P.entry_Lay.f n ino = some (r1, r2)) := Lib.hid (by unfold P.entry_Lay.f; rw [hl])
  have e0 : (r2 != 0) = true := by rw [bne_iff_ne]; exact h0
  clear hb hr0 hd hl h0
  go_enter Try.func18, Try.ntmps18
  go_wp2_with fail
  refine (all_yes A0 c0 l0 _ HB.out (Kd.C_alloc HR.out _) hc0 HD.out).mono ?_
  rintro e w1 ⟨v, rfl, -, hb⟩
  have hbox := blk_below (blk_new w (.cells #[.string n, .int .i64 ino] 23)) hb
  have hB := Lib.hid (below_step (below_alloc (Below.refl _ _) _) hb)
  have d0 : w1.cell? ⟨w.heap.size, 0, none⟩ = some (.string n) := (blk_cell hbox 0).trans rfl
  have d1 : w1.cell? ⟨w.heap.size, 1, none⟩ = some (.int .i64 ino) := (blk_cell hbox 1).trans rfl
  clear hb hbox
  go_wp2_with fail
  refine (P.entry_Lay.calls n ino r1 r2 _ HL.out).mono ?_
  rintro e w2 ⟨v2, rfl, -, hb⟩
  replace hB := Lib.hid (below_step hB.out hb)
  clear hb d0 d1
  go_wp2_with fail
  go_ret2
  exact ⟨_, rfl, Kd.R_nil _ _ _ _ _, hB.out⟩

set_option maxHeartbeats 2000000 in
set_option maxRecDepth 100000 in
theorem add_there (A0 : Option Addr) (c0 : Nat) (l0 : List Int) (n : ByteArray) (ino : Int) (w : World) (hb : Bytes l0) (hr0 : Kd.C (Kd.int .u8) w A0 l0.length l0) (hc0 : l0.length ≤ c0) {s : List Sl} (hd : dirO l0 = some s) {Y : List Int} (hn : n.size ≤ maxLen) (hl : La.layA n ino = (Y, 0)) {p : Int} (hp : placeA s n = p) (h0 : 0 ≤ p) :
    Calls Try.prog 18 #[.slice A0 l0.length c0, .agg #[.string n, .int .i64 ino]] w (Post w ([], 3)) := by
  have HR := Lib.hid hr0
  have HB := Lib.hid hb
  have HD := Lib.hid hd
  have HP := Lib.hid hp
  have HL : Hid (P.entry_Lay.f n ino = some (Y, 0)) := Lib.hid (by unfold P.entry_Lay.f; rw [hl])
  have e0 : decide (p ≥ 0) = true := decide_eq_true h0
  clear hb hr0 hd hl hp
  go_enter Try.func18, Try.ntmps18
  go_wp2_with fail
  refine (all_yes A0 c0 l0 _ HB.out (Kd.C_alloc HR.out _) hc0 HD.out).mono ?_
  rintro e w1 ⟨v, rfl, -, hb⟩
  have hbox := Lib.hid (blk_below (blk_new w (.cells #[.string n, .int .i64 ino] 23)) hb)
  have hB := Lib.hid (below_step (below_alloc (Below.refl _ _) _) hb)
  have d0 : w1.cell? ⟨w.heap.size, 0, none⟩ = some (.string n) := (blk_cell hbox.out 0).trans rfl
  have d1 : w1.cell? ⟨w.heap.size, 1, none⟩ = some (.int .i64 ino) := (blk_cell hbox.out 1).trans rfl
  clear hb
  go_wp2_with fail
  refine (P.entry_Lay.calls n ino Y 0 _ HL.out).mono ?_
  rintro e w2 ⟨v2, rfl, -, hb⟩
  replace hB := Lib.hid (below_step hB.out hb)
  replace hbox := Lib.hid (blk_below hbox.out hb)
  clear hb d0 d1
  have d0 : w2.cell? ⟨w.heap.size, 0, none⟩ = some (.string n) := (blk_cell hbox.out 0).trans rfl
  go_wp2_with fail
  refine (place_yes A0 c0 l0 n _ hn HD.out (Kd.C_below HR.out hB.out) hc0 HP.out).mono ?_
  rintro e w3 ⟨rfl, hb⟩
  replace hB := Lib.hid (below_step hB.out hb)
  clear hb d0
  go_wp2_with fail
  go_ret2
  exact ⟨_, rfl, Kd.R_nil _ _ _ _ _, hB.out⟩

set_option maxHeartbeats 8000000 in
set_option maxRecDepth 100000 in
theorem add_fill (A0 : Option Addr) (c0 : Nat) (l0 : List Int) (n : ByteArray) (ino : Int) (w : World) (hb : Bytes l0) (hr0 : Kd.C (Kd.int .u8) w A0 l0.length l0) (hc0 : l0.length ≤ c0) {s : List Sl} (hd : dirO l0 = some s) (hn : n.size ≤ maxLen) (hok : okE (n, ino)) (hp : placeA s n = -1) :
    Calls Try.prog 18 #[.slice A0 l0.length c0, .agg #[.string n, .int .i64 ino]] w (Post w (fillS s (n, ino) (freeGo s 0))) := by
  obtain ⟨hl, hg⟩ := dir_good hd
  have hlen : Hid (l0.length = 16 * s.length) := Lib.hid (by rw [hl]; exact bytesS_len hg.ok)
  have hroom := hg.room
  have hl0 : l0.length ≤ 3840 := by have := hlen.out; omega
  have HG := Lib.hid hg
  have HR := Lib.hid hr0
  have HB := Lib.hid hb
  have HD := Lib.hid hd
  have HP := Lib.hid hp
  have HS := Lib.hid hl
  have HO := Lib.hid hok
  obtain ⟨Y, hY⟩ : ∃ Y, Y = La.layL n ino := ⟨_, rfl⟩
  have hY16 : Hid (Y.length = 16) := Lib.hid (by rw [hY]; exact La.layL_len n ino (okE.size hok).2)
  have HL : Hid (P.entry_Lay.f n ino = some (Y, 0)) := Lib.hid (by unfold P.entry_Lay.f; rw [layA_right hok.1 hok.2.1 hok.2.2, hY])
  replace hY := Lib.hid hY
  obtain ⟨F, hF⟩ : ∃ F, F = freeGo s 0 := ⟨_, rfl⟩
  rw [← hF]
  have HF0 : Hid (freeGo (s.drop 0) 0 = F) := Lib.hid (by rw [List.drop_zero, hF])
  clear hb hr0 hd hl hp hok hg hF
  go_enter Try.func18, Try.ntmps18
  go_wp2_with fail
  refine (all_yes A0 c0 l0 _ HB.out (Kd.C_alloc HR.out _) hc0 HD.out).mono ?_
  rintro e w1 ⟨v, rfl, -, hb⟩
  have hbox := Lib.hid (blk_below (blk_new w (.cells #[.string n, .int .i64 ino] 23)) hb)
  have hB := Lib.hid (below_step (below_alloc (Below.refl _ _) _) hb)
  have d0 : w1.cell? ⟨w.heap.size, 0, none⟩ = some (.string n) := (blk_cell hbox.out 0).trans rfl
  have d1 : w1.cell? ⟨w.heap.size, 1, none⟩ = some (.int .i64 ino) := (blk_cell hbox.out 1).trans rfl
  clear hb
  go_wp2_with fail
  refine (P.entry_Lay.calls n ino Y 0 _ HL.out).mono ?_
  rintro e w2 ⟨v2, rfl, hy, hb⟩
  obtain ⟨gy, cy, ey, hgy, -, -⟩ := Kd.R_form hy (by have := hY16.out; omega)
  rw [hY16.out] at ey
  subst ey
  replace hy := Lib.hid (Kd.R_lower hy hB.out.size)
  replace hB := Lib.hid (below_step hB.out hb)
  replace hbox := Lib.hid (blk_below hbox.out hb)
  clear hb d0 d1
  have d0 : w2.cell? ⟨w.heap.size, 0, none⟩ = some (.string n) := (blk_cell hbox.out 0).trans rfl
  go_wp2_with fail
  refine (place_yes A0 c0 l0 n _ hn HD.out (Kd.C_below HR.out hB.out) hc0 HP.out).mono ?_
  rintro e w3 ⟨rfl, hb⟩
  replace hB := Lib.hid (below_step hB.out hb)
  replace hy := Lib.hid (Kd.R_below hy.out hb)
  clear hb d0 hbox
  go_wp2_with (at_builtin; refine Kd.R_append_row (Value.int .u8) (0 : Int) (w0 := w) w.heap.size rfl (.const (.slice none 0 0)) (.tmp 33) 24 5 (.int .u8 0) 1 rfl Try.underlying24 Rl.info_u8 rfl (by decide) (.slice none 0 0) [] l0 A0 l0.length c0 (fun _ => True) rfl rfl (fun _ _ => trivial) (Kd.R_nil _ _ _ _ _) (Kd.C_below HR.out hB.out) hB.out hB.out.size (by simp; omega) ?_; intro v4 w4 ho4 hb4 hg4 hat4; have hy4 := Lib.hid (Kd.R_grown hy.out hg4 (fun k hk => by simp [Value.ownBlock])); rw [List.nil_append] at ho4; obtain ⟨A4, k4, e4⟩ := Kd.R_slice ho4; subst e4; replace ho4 := Lib.hid ho4; replace hb4 := Lib.hid hb4; clear hg4 hat4 hy hB)
  go_loopw [38] (fun i wr => ∃ k : Nat, i = .int .i64 k ∧ k ≤ s.length ∧ Hid (freeGo (s.drop k) k = F) ∧ Hid (Kd.R (Kd.int .u8) 5 wr w.heap.size (fun _ => True) (.slice A4 l0.length k4) l0) ∧ Hid (Kd.R (Kd.int .u8) 5 wr w.heap.size (fun _ => True) (.slice (some ⟨gy, 0, none⟩) 16 cy) Y) ∧ Hid (Below w.heap.size w wr)) (fun i _ => s.length - (intOf i).toNat)
  case atStart => exact ⟨0, rfl, Nat.zero_le _, HF0, ho4, hy4, hb4⟩
  case round =>
    obtain ⟨k, rfl, hk, hF, hO, hy, hB⟩ := hrel
    clear HF0 ho4 hy4 hb4
    by_cases hlt : k < s.length
    · have c1 : decide ((k : Int) < (l0.length : Int) / 16) = true := decide_eq_true (by have := hlen.out; omega)
      obtain ⟨g, cap, ev, -⟩ := Kd.R_form hO.out (by have := hlen.out; omega)
      injection ev with e1 _ e3
      subst e1 e3
      have hcap := (Kd.R_reads' hO.out).2.1
      obtain ⟨o, ho⟩ : ∃ o, o = k * 16 := ⟨_, rfl⟩
      have ho2 : o + 16 ≤ l0.length := by have := hlen.out; omega
      replace ho := Lib.hid ho
      have hC := Lib.hid (R_ent hO.out HS.out HG.out.ok hlt ho.out)
      have hok : Hid (∀ e, s[k] = some e → okE e) := Lib.hid (fun e he => HG.out.ok e (by rw [← he]; exact List.getElem_mem hlt))
      cases hsk : s[k] with
      | none =>
        have hFk : Hid (F = some k) := Lib.hid (hF.out.symm.trans (freeGo_drop_none hlt hsk))
        clear hF
        have hN : Hid (s[k].isNone = true) := Lib.hid (by rw [hsk]; rfl)
        clear hsk
        go_wp2_with fail
        refine (at_o g l0.length k4 k o (by have := hlen.out; omega) hcap (by omega) ho _).mono ?_
        rintro e w5 ⟨rfl, hw⟩
        subst hw
        go_wp2_with fail
        refine (free_slot hC.out hok.out (by have := ho.out; omega) hN.out).mono ?_
        rintro e w6 ⟨rfl, hb⟩
        replace hO := Lib.hid (Kd.R_below hO.out hb)
        replace hy := Lib.hid (Kd.R_below hy.out hb)
        replace hB := Lib.hid (below_step hB.out hb)
        clear hb hC
        go_wp2_with fail
        refine (at_o g l0.length k4 k o (by have := hlen.out; omega) hcap (by omega) ho _).mono ?_
        rintro e w7 ⟨rfl, hw⟩
        subst hw
        obtain ⟨w8, hcp, ho8, hb8, -⟩ := copy_into (T := 24) (dcap := k4 - o) (scap := cy) rfl hO.out hB.out (C_lenx' rfl (Kd.R_reads' hy.out).2.2) (o := o) (by have := hY16.out; omega)
        replace hcp := hcp 16 16 hY16.out hY16.out
        replace ho8 := Lib.hid ho8
        replace hb8 := Lib.hid hb8
        go_wp2_with fail
        go_ret2
        rw [hFk.out]
        show Post w (bytesS (s.set k (some (n, ino))), 0) _ _
        have e : l0.take o ++ Y ++ l0.drop (o + Y.length) = bytesS (s.set k (some (n, ino))) := by
          rw [← bytesS_set HG.out.ok hlt (o := some (n, ino)) (La.layL_len n ino (okE.size HO.out).2), HS.out, ho.out, Nat.mul_comm k 16, hY.out]; rfl
        refine ⟨_, rfl, ?_, hb8.out⟩
        have h := ho8.out
        rw [e] at h
        exact h
      | some e =>
        have hFk : Hid (freeGo (s.drop (k + 1)) (k + 1) = F) := Lib.hid ((freeGo_drop_some hlt hsk).symm.trans hF.out)
        clear hF
        have hN : Hid (s[k].isNone = false) := Lib.hid (by rw [hsk]; rfl)
        clear hsk
        go_wp2_with fail
        refine (at_o g l0.length k4 k o (by have := hlen.out; omega) hcap (by omega) ho _).mono ?_
        rintro e w5 ⟨rfl, hw⟩
        subst hw
        go_wp2_with fail
        refine (free_slot hC.out hok.out (by have := ho.out; omega) hN.out).mono ?_
        rintro e w6 ⟨rfl, hb⟩
        replace hO := Lib.hid (Kd.R_below hO.out hb)
        replace hy := Lib.hid (Kd.R_below hy.out hb)
        replace hB := Lib.hid (below_step hB.out hb)
        clear hb hC
        go_wp2_with fail
        go_roundw
        case rel => exact ⟨k + 1, by go_num, by omega, hFk, hO, hy, hB⟩
        case measure => simp [intOf]; omega
    · obtain rfl : k = s.length := by omega
      have c1 : decide ((s.length : Int) < (l0.length : Int) / 16) = false := decide_eq_false (by have := hlen.out; omega)
      have hFk : Hid (F = none) := Lib.hid (by rw [← hF.out, List.drop_length]; rfl)
      clear hF
      by_cases hfull : s.length < 240
      · have c2 : decide ((l0.length : Int) + 16 > 3840) = false := decide_eq_false (by have := hlen.out; omega)
        go_wp2_with (at_builtin; refine Kd.R_append_row (Value.int .u8) (0 : Int) (w0 := w) w.heap.size rfl (.tmp 56) (.tmp 57) 24 5 (.int .u8 0) 1 rfl Try.underlying24 Rl.info_u8 rfl (by decide) (.slice A4 l0.length k4) l0 Y (some ⟨gy, 0, none⟩) 16 cy (fun _ => True) rfl rfl (fun _ _ => trivial) hO.out (C_lenx' hY16.out (Kd.R_reads' hy.out).2.2) hB.out hB.out.size (by omega) ?_; intro v5 w5 ho5 hb5 hg5 hat5; clear hg5 hat5; replace ho5 := Lib.hid ho5; replace hb5 := Lib.hid hb5)
        go_ret2
        rw [hFk.out]
        show Post w (if s.length < 240 then (bytesS (s ++ [some (n, ino)]), 0) else ([], 5)) _ _
        rw [if_pos hfull]
        have e : l0 ++ Y = bytesS (s ++ [some (n, ino)]) := by rw [bytesS_append, HS.out, hY.out]; simp [bytesS, slotB]
        refine ⟨_, rfl, ?_, hb5.out⟩
        have h := ho5.out
        rw [e] at h
        exact h
      · have c2 : decide ((l0.length : Int) + 16 > 3840) = true := decide_eq_true (by have := hlen.out; omega)
        go_wp2_with fail
        go_ret2
        rw [hFk.out]
        show Post w (if s.length < 240 then (bytesS (s ++ [some (n, ino)]), 0) else ([], 5)) _ _
        rw [if_neg hfull]
        exact ⟨_, rfl, Kd.R_nil _ _ _ _ _, hB.out⟩

theorem add_any (A0 : Option Addr) (c0 : Nat) (l0 : List Int) (n : ByteArray) (ino : Int) (w : World) (hn : n.size ≤ maxLen) (hb : Bytes l0) (hr0 : Kd.C (Kd.int .u8) w A0 l0.length l0) (hc0 : l0.length ≤ c0) :
    Calls Try.prog 18 #[.slice A0 l0.length c0, .agg #[.string n, .int .i64 ino]] w (Post w (addA l0 n ino)) := by
  unfold addA
  cases hd : dirO l0 with
  | none => exact add_no A0 c0 l0 n ino w hb hr0 hc0 hd
  | some s =>
    simp only
    unfold addS
    by_cases hl : (La.layA n ino).2 = 0
    · rw [if_pos hl]
      have hl' : La.layA n ino = ((La.layA n ino).1, 0) := Prod.ext rfl hl
      rcases place_cases n s with ⟨h1, h2, h3⟩ | ⟨j, i, hj, h1, h2, h3⟩
      · rw [if_neg (by omega)]
        obtain ⟨k1, k2, k3, k4⟩ := layA_ok hl'
        exact add_fill A0 c0 l0 n ino w hb hr0 hc0 hd hn ⟨k1, k2, k3⟩ h1
      · rw [if_pos (by omega)]
        exact add_there A0 c0 l0 n ino w hb hr0 hc0 hd hn hl' rfl (by omega)
    · rw [if_neg hl]
      exact add_lay A0 c0 l0 n ino w hb hr0 hc0 hd rfl hl
end Go.Proofs.Ytinfjmdcmfpdiaa.Ad

/- entry.Remove: every row of bytes, every name. -/
namespace Go.Proofs.Ytinfjmdcmfpdiaa.Rm
open Go.RowKit Go.Proofs.Ytinfjmdcmfpdiaa.Rt Go.Proofs.Ytinfjmdcmfpdiaa.Md Go.Proofs.Ytinfjmdcmfpdiaa.Al Go.Proofs.Ytinfjmdcmfpdiaa.Pc Go.Proofs.Ytinfjmdcmfpdiaa.Fn Go.Proofs.Ytinfjmdcmfpdiaa.Cp Go.Proofs.Ytinfjmdcmfpdiaa.Ad Go.Proofs.YtinfjmdcmfpdiaaW.PrintWords Go.Proofs.YtinfjmdcmfpdiaaW.PrintLast Go.Proofs.YtinfjmdcmfpdiaaW.PrintMore
set_option linter.unusedVariables false
set_option linter.unusedSimpArgs false

set_option maxHeartbeats 2000000 in
set_option maxRecDepth 100000 in
theorem rm_no (A0 : Option Addr) (c0 : Nat) (l0 : List Int) (n : ByteArray) (w : World) (hb : Bytes l0) (hr0 : Kd.C (Kd.int .u8) w A0 l0.length l0) (hc0 : l0.length ≤ c0) (hd : dirO l0 = none) :
    Calls Try.prog 20 #[.slice A0 l0.length c0, .string n] w (Post w ([], 121)) := by
  have HR := Lib.hid hr0
  have HB := Lib.hid hb
  have HD := Lib.hid hd
  clear hb hr0 hd
  go_enter Try.func20, Try.ntmps20
  go_wp2_with fail
  refine (all_no A0 c0 l0 _ HB.out HR.out hc0 HD.out).mono ?_
  rintro e w1 ⟨v, rfl, -, hb⟩
  have hB := Lib.hid hb
  clear hb
  go_wp2_with fail
  go_ret2
  exact ⟨_, rfl, Kd.R_nil _ _ _ _ _, hB.out⟩

set_option maxHeartbeats 2000000 in
set_option maxRecDepth 100000 in
theorem rm_miss (A0 : Option Addr) (c0 : Nat) (l0 : List Int) (n : ByteArray) (w : World) (hn : n.size ≤ maxLen) (hb : Bytes l0) (hr0 : Kd.C (Kd.int .u8) w A0 l0.length l0) (hc0 : l0.length ≤ c0) {s : List Sl} (hd : dirO l0 = some s) (hp : placeA s n = -1) :
    Calls Try.prog 20 #[.slice A0 l0.length c0, .string n] w (Post w ([], 2)) := by
  have HR := Lib.hid hr0
  have HB := Lib.hid hb
  have HD := Lib.hid hd
  have HP := Lib.hid hp
  clear hb hr0 hd hp
  go_enter Try.func20, Try.ntmps20
  go_wp2_with fail
  refine (all_yes A0 c0 l0 _ HB.out HR.out hc0 HD.out).mono ?_
  rintro e w1 ⟨v, rfl, -, hb⟩
  have hB := Lib.hid hb
  clear hb
  go_wp2_with fail
  refine (place_yes A0 c0 l0 n _ hn HD.out (Kd.C_below HR.out hB.out) hc0 HP.out).mono ?_
  rintro e w2 ⟨rfl, hb⟩
  replace hB := Lib.hid (below_step hB.out hb)
  clear hb
  go_wp2_with fail
  go_ret2
  exact ⟨_, rfl, Kd.R_nil _ _ _ _ _, hB.out⟩

/-- The copy stands. -/
structure RmS (w : World) (g k4 : Nat) (l : List Int) (W : World) : Prop where
  row : Kd.R (Kd.int .u8) 5 W w.heap.size (fun _ => True) (.slice (some ⟨g, 0, none⟩) l.length k4) l
  below : Below w.heap.size w W
theorem RmS.drew {w W : World} {g k4 : Nat} {l : List Int} (h : RmS w g k4 l W) : RmS w g k4 l W.drew := ⟨Kd.R_drew h.row, below_drew1 h.below⟩
theorem RmS.grown {w W W' : World} {g k4 : Nat} {l : List Int} (h : RmS w g k4 l W) (hb : Below w.heap.size w W') (hg : W.grownBy W' none) : RmS w g k4 l W' := ⟨Kd.R_grown h.row hg (fun _ _ => by simp), hb⟩

set_option maxHeartbeats 8000000 in
set_option maxRecDepth 100000 in
theorem rm_hit (A0 : Option Addr) (c0 : Nat) (l0 : List Int) (n : ByteArray) (w : World) (hn : n.size ≤ maxLen) (hb : Bytes l0) (hr0 : Kd.C (Kd.int .u8) w A0 l0.length l0) (hc0 : l0.length ≤ c0) {s : List Sl} (hd : dirO l0 = some s) {j : Nat} (hj : j < s.length) (hp : placeA s n = (j : Int)) :
    Calls Try.prog 20 #[.slice A0 l0.length c0, .string n] w (Post w (bytesS (trim (s.set j none)), 0)) := by
  obtain ⟨hl, hg⟩ := dir_good hd
  have hlen : Hid (l0.length = 16 * s.length) := Lib.hid (by rw [hl]; exact bytesS_len hg.ok)
  have hroom := hg.room
  have hl0 : l0.length ≤ 3840 := by have := hlen.out; omega
  have HG := Lib.hid hg
  have HR := Lib.hid hr0
  have HB := Lib.hid hb
  have HD := Lib.hid hd
  have HP := Lib.hid hp
  have HS := Lib.hid hl
  obtain ⟨o, ho⟩ : ∃ o, o = j * 16 := ⟨_, rfl⟩
  replace ho := Lib.hid ho
  have b1 : decide ((j : Int) < 0) = false := decide_eq_false (by omega)
  clear hb hr0 hd hp hl hg
  go_enter Try.func20, Try.ntmps20
  go_wp2_with fail
  refine (all_yes A0 c0 l0 _ HB.out HR.out hc0 HD.out).mono ?_
  rintro e w1 ⟨v, rfl, -, hb⟩
  have hB := Lib.hid hb
  clear hb
  go_wp2_with fail
  refine (place_yes A0 c0 l0 n _ hn HD.out (Kd.C_below HR.out hB.out) hc0 HP.out).mono ?_
  rintro e w2 ⟨rfl, hb⟩
  replace hB := Lib.hid (below_step hB.out hb)
  clear hb
  go_wp2_with (at_builtin; refine Kd.R_append_row (Value.int .u8) (0 : Int) (w0 := w) w.heap.size rfl (.const (.slice none 0 0)) (.tmp 24) 24 5 (.int .u8 0) 1 rfl Try.underlying24 Rl.info_u8 rfl (by decide) (.slice none 0 0) [] l0 A0 l0.length c0 (fun _ => True) rfl rfl (fun _ _ => trivial) (Kd.R_nil _ _ _ _ _) (Kd.C_below HR.out hB.out) hB.out hB.out.size (by simp; omega) ?_; intro v4 w4 ho4 hb4 hg4 hat4; rw [List.nil_append] at ho4; obtain ⟨g, k4, e4, -⟩ := Kd.R_form ho4 (by have := hlen.out; omega); subst e4; have hS4 := Lib.hid (RmS.mk ho4 hb4); clear ho4 hb4 hg4 hat4 hB)
  have hcap := (Kd.R_reads' hS4.out.row).2.1
  have hS0 := hS4.out.drew
  refine start_ (n := 5) (S := RmS w g k4 l0) (ds := [4]) #[false, false, false, false, false] (by kernel_rfl) rfl rfl hS0 (fun hHeld => ?_)
  refine pure_ (i := 0) (N := some 26) (v := ?_) (a' := ?_) #[true, false, false, false, false] rfl rfl (by kernel_rfl) (fun _ _ _ h => h) (Or.inl ⟨by rfl, ?_⟩) ?_ ?_
  rotate_left
  · intro w'
    go_simp
    with_reducible rfl
  rotate_left
  · simp only [Act.put, List.setIfInBounds_toArray, List.set_cons_zero, List.set_cons_succ, i64_w, i32_w]
    rfl
  refine pure_ (i := 1) (N := some 27) (v := ?_) (a' := ?_) #[true, true, false, false, false] rfl rfl (by kernel_rfl) (fun _ _ _ h => h) (Or.inl ⟨by rfl, ?_⟩) ?_ ?_
  rotate_left
  · intro w'
    go_simp
    with_reducible rfl
  rotate_left
  · simp only [Act.put, List.setIfInBounds_toArray, List.set_cons_zero, List.set_cons_succ, i64_w, i32_w]
    rfl
  refine join_ (σ := Value) 1 #[true, true, true, true, false] (fun v => [(28, .slice (some ⟨g, o, none⟩) 16 (k4 - o)), (29, v)]) (fun v w' => Kd.R (Kd.int .u8) 5 w' w.heap.size (fun _ => True) v (List.replicate 16 0) ∧ RmS w g k4 l0 w') ?_ ?_
  rotate_left
  · intro hCont
    refine two_ (i := 2) (j := 3) (Ni := some 28) (Nj := some 29) #[true, true, true, false, false] #[true, true, false, true, false] rfl rfl rfl rfl (by kernel_rfl) (by decide) (by decide) (fun K hK => ?_) (fun K hK => ?_)
    · skip
      refine goes_ Try.func36 (by kernel_rfl) rfl #[.slice (some ⟨g, 0, none⟩) l0.length k4, .int .i64 (j : Int)] (by rfl) rfl rfl (by (try simp only [List.map_toArray, List.map_cons, List.map_nil]); first | done | rfl) ?_
      with_reducible refine (at_o g l0.length k4 j o (by have := hlen.out; omega) hcap (by omega) ho _).mono ?_
      rintro e w5 ⟨rfl, hw⟩
      refine ⟨_, rfl, ?_⟩
      subst hw
      refine hK.out _ _ hHeld (fun hHeld => ?_)
      clear hK K
      refine norm_ (a' := ?_) ?_ ?_
      rotate_left
      · show Act.put _ (some 28) _ = _
        simp only [Act.put, List.setIfInBounds_toArray, List.set_cons_zero, List.set_cons_succ, i64_w, i32_w]
        rfl
      refine one_ (i := 3) (N := some 29) #[true, true, true, true, false] rfl rfl (by kernel_rfl) (by decide) (fun K hK => ?_)
      refine Kd.R_make_step (Kd.int .u8) (w0 := w) w.heap.size 5 (by rfl) (N := 29) rfl 24 _ _ rfl 16 rfl rfl Try.underlying24 (.int .u8 0) 1 Rl.info_u8 rfl (by decide) (by omega) 0 (ok := fun _ => True) (okp := fun _ => True) rfl (fun _ hk => hk) trivial (by omega) (by omega) hHeld.below hHeld.below.size ?_
      intro z6 w6 ho6 hb6 hg6 hn6
      have hS6 := RmS.grown hHeld hb6 hg6
      replace ho6 := Lib.hid ho6
      clear hg6 hn6 hb6
      refine hK.out _ _ hS6 (fun hHeld => ?_)
      clear hK K hS6
      refine norm_ (a' := ?_) ?_ ?_
      rotate_left
      · show Act.put _ (some 29) _ = _
        simp only [Act.put, List.setIfInBounds_toArray, List.set_cons_zero, List.set_cons_succ, i64_w, i32_w]
        rfl
      exact norm_ (by first | (simp only [putAll, Act.put, List.setIfInBounds_toArray, List.set_cons_zero, List.set_cons_succ]; done) | (simp only [putAll, Act.put, List.setIfInBounds_toArray, List.set_cons_zero, List.set_cons_succ]; rfl)) (hCont z6 _ ⟨ho6.out, hHeld⟩)
    · skip
      refine Kd.R_make_step (Kd.int .u8) (w0 := w) w.heap.size 5 (by rfl) (N := 29) rfl 24 _ _ rfl 16 rfl rfl Try.underlying24 (.int .u8 0) 1 Rl.info_u8 rfl (by decide) (by omega) 0 (ok := fun _ => True) (okp := fun _ => True) rfl (fun _ hk => hk) trivial (by omega) (by omega) hHeld.below hHeld.below.size ?_
      intro z6 w6 ho6 hb6 hg6 hn6
      have hS6 := RmS.grown hHeld hb6 hg6
      replace ho6 := Lib.hid ho6
      clear hg6 hn6 hb6
      refine hK.out _ _ hS6 (fun hHeld => ?_)
      clear hK K hS6
      refine norm_ (a' := ?_) ?_ ?_
      rotate_left
      · show Act.put _ (some 29) _ = _
        simp only [Act.put, List.setIfInBounds_toArray, List.set_cons_zero, List.set_cons_succ, i64_w, i32_w]
        rfl
      refine one_ (i := 2) (N := some 28) #[true, true, true, true, false] rfl rfl (by kernel_rfl) (by decide) (fun K hK => ?_)
      refine goes_ Try.func36 (by kernel_rfl) rfl #[.slice (some ⟨g, 0, none⟩) l0.length k4, .int .i64 (j : Int)] (by rfl) rfl rfl (by (try simp only [List.map_toArray, List.map_cons, List.map_nil]); first | done | rfl) ?_
      with_reducible refine (at_o g l0.length k4 j o (by have := hlen.out; omega) hcap (by omega) ho _).mono ?_
      rintro e w5 ⟨rfl, hw⟩
      refine ⟨_, rfl, ?_⟩
      subst hw
      refine hK.out _ _ hHeld (fun hHeld => ?_)
      clear hK K
      refine norm_ (a' := ?_) ?_ ?_
      rotate_left
      · show Act.put _ (some 28) _ = _
        simp only [Act.put, List.setIfInBounds_toArray, List.set_cons_zero, List.set_cons_succ, i64_w, i32_w]
        rfl
      exact norm_ (by first | (simp only [putAll, Act.put, List.setIfInBounds_toArray, List.set_cons_zero, List.set_cons_succ]; done) | (simp only [putAll, Act.put, List.setIfInBounds_toArray, List.set_cons_zero, List.set_cons_succ]; rfl)) (hCont z6 _ ⟨ho6.out, hHeld⟩)
  rintro z7 w7 ⟨hz, hHeld⟩
  obtain ⟨gz, cz, ez, hgz, -, -⟩ := Kd.R_form hz (by simp)
  rw [List.length_replicate] at ez
  subst ez
  refine norm_ (a' := ?_) ?_ ?_
  rotate_left
  · simp only [putAll, Act.put, List.setIfInBounds_toArray, List.set_cons_zero, List.set_cons_succ]
    rfl
  refine last_ (i := 4) (N := some 30) #[true, true, true, true, true] rfl rfl (by kernel_rfl) (by decide) (fun K hK => ?_)
  obtain ⟨w8, hcp, ho8, hb8, -⟩ := copy_into (T := 24) (dcap := k4 - o) (scap := cz) rfl hHeld.row hHeld.below (C_lenx' rfl (Kd.R_reads' hz).2.2) (o := o) (by have := hlen.out; have := ho.out; rw [List.length_replicate]; omega)
  replace hcp := hcp 16 16 (List.length_replicate ..) (List.length_replicate ..)
  replace ho8 := Lib.hid ho8
  replace hb8 := Lib.hid hb8
  refine value_ (w1 := ?_) (v := ?_) (by rfl) rfl ?_ ?_
  rotate_left 2
  · go_simp
    constructor
    · rfl
    · rfl
  clear hcp hz
  refine hK.out _ _ ?_
  clear hK K
  refine norm_ (a' := ?_) ?_ ?_
  rotate_left
  · show Act.put _ (some 30) _ = _
    simp only [Act.put, List.setIfInBounds_toArray, List.set_cons_zero, List.set_cons_succ, i64_w, i32_w]
    rfl
  refine done_ (by kernel_rfl) ?_
  clear hHeld hS0 hS4
  obtain ⟨t, ht⟩ : ∃ t, t = s.set j none := ⟨_, rfl⟩
  have htl : Hid (t.length = s.length) := Lib.hid (by rw [ht]; simp)
  have htok : Hid (AllOk t) := Lib.hid (by rw [ht]; exact HG.out.ok.set j (fun e he => by cases he))
  have hO8 : Hid (Kd.R (Kd.int .u8) 5 w8 w.heap.size (fun _ => True) (.slice (some ⟨g, 0, none⟩) (16 * s.length) k4) (bytesS (t.take s.length))) := Lib.hid (by
    have h := ho8.out
    have e : l0.take o ++ List.replicate 16 0 ++ l0.drop (o + (List.replicate 16 (0 : Int)).length) = bytesS t := by
      rw [ht, ← bytesS_set HG.out.ok hj (o := none) rfl, HS.out, ho.out, Nat.mul_comm j 16]; rfl
    rw [e, hlen.out] at h
    rw [List.take_of_length_le (by rw [htl.out]; omega)]
    exact h)
  rw [← ht]
  replace ht := Lib.hid ht
  have hT : Hid (trimGo t s.length = trim t) := Lib.hid (by unfold trim; rw [htl.out])
  clear ho8 hgz
  go_wp2_with fail
  go_loopw [9, 10] (fun v i wr => ∃ k : Nat, v = .slice (some ⟨g, 0, none⟩) (16 * k) k4 ∧ i = .int .i64 k ∧ k ≤ s.length ∧ Hid (trimGo t k = trim t) ∧ Hid (Kd.R (Kd.int .u8) 5 wr w.heap.size (fun _ => True) (.slice (some ⟨g, 0, none⟩) (16 * k) k4) (bytesS (t.take k))) ∧ Hid (Below w.heap.size w wr)) (fun _ i _ => (intOf i).toNat)
  case atStart => exact ⟨s.length, by rw [← hlen.out], by congr 1; have := hlen.out; omega, Nat.le_refl _, hT, hO8, hb8⟩
  case round =>
    obtain ⟨k, rfl, rfl, hk, hT, hO, hB⟩ := hrel
    cases k with
    | zero =>
      have c1 : decide (((0 : Nat) : Int) > 0) = false := by decide
      have hE : Hid (trim t = []) := Lib.hid hT.out.symm
      clear hT
      go_wp2_with fail
      go_ret2
      rw [← ht.out, hE.out]
      exact ⟨_, rfl, by have h := hO.out; rw [List.take_zero] at h; exact h, hB.out⟩
    | succ m =>
      have c1 : decide (((m + 1 : Nat) : Int) > 0) = true := decide_eq_true (by omega)
      have hmt : m < t.length := by have := htl.out; omega
      obtain ⟨o2, ho2⟩ : ∃ o2, o2 = m * 16 := ⟨_, rfl⟩
      replace ho2 := Lib.hid ho2
      have hcm := (Kd.R_reads' hO.out).2.1
      have hbl : Hid ((bytesS (t.take (m + 1))).length = 16 * (m + 1)) := Lib.hid (by rw [bytesS_len (htok.out.take _), List.length_take]; omega)
      have htk : (t.take (m + 1))[m]'(by rw [List.length_take]; omega) = t[m] := List.getElem_take
      have hC := R_ent (k := m) (o := o2) (by rw [hbl.out]; exact hO.out) rfl (htok.out.take _) (by rw [List.length_take]; omega) ho2.out
      rw [htk] at hC
      replace hC := Lib.hid hC
      have hok : Hid (∀ e, t[m] = some e → okE e) := Lib.hid (fun e he => htok.out e (by rw [← he]; exact List.getElem_mem hmt))
      clear htk
      cases hsk : t[m] with
      | none =>
        have hN : Hid (t[m].isNone = true) := Lib.hid (by rw [hsk]; rfl)
        have hT2 : Hid (trimGo t m = trim t) := Lib.hid (by rw [← hT.out]; simp only [trimGo]; rw [if_pos (by rw [List.getElem?_eq_getElem hmt, hsk])])
        clear hsk hT
        go_wp2_with fail
        refine (at_o g (16 * (m + 1)) k4 m o2 (by omega) hcm (by omega) ho2 _).mono ?_
        rintro e w9 ⟨rfl, hw⟩
        subst hw
        go_wp2_with fail
        refine (free_slot hC.out hok.out (by have := ho2.out; omega) hN.out).mono ?_
        rintro e w10 ⟨rfl, hb⟩
        replace hO := Lib.hid (Kd.R_below hO.out hb)
        replace hB := Lib.hid (below_step hB.out hb)
        clear hb hC
        go_wp2_with fail
        refine ⟨⟨m, by rw [Nat.mul_comm], rfl, by omega, hT2, Lib.hid ?_, hB⟩, by simp [intOf]⟩
        have h := Kd.R_take (m := 16 * m) hO.out (by rw [hbl.out]; omega)
        rw [bytesS_take (htok.out.take _) (by rw [List.length_take]; omega), List.take_take, Nat.min_eq_left (by omega)] at h
        exact h
      | some e =>
        have hN : Hid (t[m].isNone = false) := Lib.hid (by rw [hsk]; rfl)
        have hT2 : Hid (trim t = t.take (m + 1)) := Lib.hid (by rw [← hT.out]; simp only [trimGo]; rw [if_neg (by rw [List.getElem?_eq_getElem hmt, hsk]; simp)])
        clear hsk hT
        go_wp2_with fail
        refine (at_o g (16 * (m + 1)) k4 m o2 (by omega) hcm (by omega) ho2 _).mono ?_
        rintro e w9 ⟨rfl, hw⟩
        subst hw
        go_wp2_with fail
        refine (free_slot hC.out hok.out (by have := ho2.out; omega) hN.out).mono ?_
        rintro e w10 ⟨rfl, hb⟩
        replace hO := Lib.hid (Kd.R_below hO.out hb)
        replace hB := Lib.hid (below_step hB.out hb)
        clear hb hC
        go_wp2_with fail
        go_ret2
        rw [← ht.out, hT2.out]
        exact ⟨_, rfl, hO.out, hB.out⟩

theorem remove_any (A0 : Option Addr) (c0 : Nat) (l0 : List Int) (n : ByteArray) (w : World) (hn : n.size ≤ maxLen) (hb : Bytes l0) (hr0 : Kd.C (Kd.int .u8) w A0 l0.length l0) (hc0 : l0.length ≤ c0) :
    Calls Try.prog 20 #[.slice A0 l0.length c0, .string n] w (Post w (removeA l0 n)) := by
  unfold removeA
  cases hd : dirO l0 with
  | none => exact rm_no A0 c0 l0 n w hb hr0 hc0 hd
  | some s =>
    simp only
    unfold removeS
    rcases place_cases n s with ⟨h1, h2, h3⟩ | ⟨j, i, hj, h1, h2, h3⟩
    · rw [if_neg (by omega)]; exact rm_miss A0 c0 l0 n w hn hb hr0 hc0 hd h1
    · rw [if_pos (by omega), h1, Int.toNat_natCast]; exact rm_hit A0 c0 l0 n w hn hb hr0 hc0 hd hj h1
end Go.Proofs.Ytinfjmdcmfpdiaa.Rm
