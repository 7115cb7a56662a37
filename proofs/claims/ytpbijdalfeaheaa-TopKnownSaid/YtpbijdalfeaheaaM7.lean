/- Walks and plain laws on which the claim stands, several texts joined. -/
import Derived.Test.YtpbijdalfeaheaaM6

/- super: Right, Meta, Plan at the one geometry. -/
namespace Go.Proofs.Ytpbijdalfeaheaa.Tf
open Go.RowKit Go.Proofs.YtpbijdalfeaheaaW.PrintWords Go.Proofs.YtpbijdalfeaheaaW.PrintLast Go.Proofs.YtpbijdalfeaheaaW.PrintMore
set_option linter.unusedVariables false
set_option linter.unusedSimpArgs false
/-- How the disk is parted. -/
def geoC : Array Value := #[.int .i64 30, .int .i64 12, .int .i64 6, .int .i64 8]
theorem within_yes (n l m : Int) (w : World) (h1 : l ≤ n) (h2 : n ≤ m) :
    Calls Try.prog 38 #[.int .i64 n, .int .i64 l, .int .i64 m] w fun e w' => e = .returned (.bool true) ∧ w = w' := by
  have d1 : decide (l ≤ n) = true := decide_eq_true h1
  have d2 : decide (n ≤ m) = true := decide_eq_true h2
  go_enter Try.func38, Try.ntmps38
  go_wp2_with fail
  go_ret
  exact ⟨rfl, rfl⟩
set_option maxHeartbeats 4000000 in
set_option maxRecDepth 100000 in
theorem right_geo (w : World) : Calls Try.prog 18 #[.agg geoC] w fun e w' => e = .returned (.bool true) ∧ Below w.heap.size w w' := by
  unfold geoC
  go_enter Try.func18, Try.ntmps18
  go_wp2_with fail
  obtain ⟨w1, hw1⟩ : ∃ w1, w.alloc (Obj.cells #[.int .i64 30, .int .i64 12, .int .i64 6, .int .i64 8] 25) = w1 := ⟨_, rfl⟩
  have hB1 : Below w.heap.size w w1 := by rw [← hw1]; exact below_alloc (Below.refl _ _) _
  have hb : w1.heap[w.heap.size]? = some (.cells #[.int .i64 30, .int .i64 12, .int .i64 6, .int .i64 8] 25 (0, 0)) := by rw [← hw1]; exact blk_new _ _
  rw [hw1]
  clear hw1
  have x1 : w1.cell? ⟨w.heap.size, 1, none⟩ = some (.int .i64 12) := blk_cell hb 1
  have Hx2 := Lib.hid (show w1.cell? ⟨w.heap.size, 2, none⟩ = some (.int .i64 6) from blk_cell hb 2)
  have Hx3 := Lib.hid (show w1.cell? ⟨w.heap.size, 3, none⟩ = some (.int .i64 8) from blk_cell hb 3)
  have Hb := Lib.hid (blk_lt hb)
  have HB1 := Lib.hid hB1
  clear hb hB1
  refine (within_yes 30 3 1000 w1 (by omega) (by omega)).mono ?_
  rintro e w' ⟨rfl, rfl⟩
  go_wp2_with fail
  refine (within_yes 12 2 64 w1 (by omega) (by omega)).mono ?_
  rintro e w' ⟨rfl, rfl⟩
  go_wp2_with fail
  have k85 : IntKind.i64.wrap 85 = 85 := rfl
  refine start_ (n := 12) (S := (fun W => Below w1.heap.size w1 W)) (ds := []) #[false, false, false, false, false, false, false, false, false, false, false, false] (by kernel_rfl) rfl rfl (below_drew (Below.refl _ _)) (fun hHeld => ?_)
  refine pure_ (i := 0) (N := some 19) (v := ?_) (a' := ?_) #[true, false, false, false, false, false, false, false, false, false, false, false] rfl rfl (by kernel_rfl) (fun _ _ _ h => h) (Or.inl ⟨by rfl, ?_⟩) ?_ ?_
  rotate_left
  · intro w'
    go_simp
    with_reducible rfl
  rotate_left
  · simp only [Act.put, List.setIfInBounds_toArray, List.set_cons_zero, List.set_cons_succ, i64_w, i32_w]
    rfl
  refine take_ (i := 1) (N := some 20) (v := ?_) (a' := ?_) #[true, true, false, false, false, false, false, false, false, false, false, false] rfl rfl (by kernel_rfl) (fun _ _ _ h => h) (Or.inl ⟨by rfl, ?_⟩) hHeld ?_ ?_
  rotate_left
  · rintro w' hS
    have y1 := hS.cell (p := ⟨w.heap.size, 2, none⟩) Hb.out
    rw [Hx2.out] at y1
    go_simp
    with_reducible rfl
  rotate_left
  · simp only [Act.put, List.setIfInBounds_toArray, List.set_cons_zero, List.set_cons_succ, i64_w, i32_w]
    rfl
  refine one_ (i := 2) (N := some 21) #[true, true, true, false, false, false, false, false, false, false, false, false] rfl rfl (by kernel_rfl) (by decide) (fun K hK => ?_)
  refine goes_ Try.func38 (by kernel_rfl) rfl #[.int .i64 6, .int .i64 1, .int .i64 64] (by rfl) rfl rfl (by (try simp only [List.map_toArray, List.map_cons, List.map_nil]); first | done | rfl) ?_
  with_reducible refine (within_yes 6 1 64 _ (by omega) (by omega)).mono ?_
  rintro e w' ⟨rfl, rfl⟩
  refine ⟨_, rfl, ?_⟩
  refine hK.out _ _ (hHeld) (fun hHeld => ?_)
  clear hK K
  refine norm_ (a' := ?_) ?_ ?_
  rotate_left
  · show Act.put _ (some 21) _ = _
    simp only [Act.put, List.setIfInBounds_toArray, List.set_cons_zero, List.set_cons_succ, i64_w, i32_w]
    rfl
  refine pure_ (i := 3) (N := some 22) (v := ?_) (a' := ?_) #[true, true, true, true, false, false, false, false, false, false, false, false] rfl rfl (by kernel_rfl) (fun _ _ _ h => h) (Or.inl ⟨by rfl, ?_⟩) ?_ ?_
  rotate_left
  · intro w'
    go_simp
    with_reducible rfl
  rotate_left
  · simp only [Act.put, List.setIfInBounds_toArray, List.set_cons_zero, List.set_cons_succ, i64_w, i32_w]
    rfl
  refine pure_ (i := 4) (N := some 23) (v := ?_) (a' := ?_) #[true, true, true, true, true, false, false, false, false, false, false, false] rfl rfl (by kernel_rfl) (fun _ _ _ h => h) (Or.inl ⟨by rfl, ?_⟩) ?_ ?_
  rotate_left
  · intro w'
    go_simp
    with_reducible rfl
  rotate_left
  · simp only [Act.put, List.setIfInBounds_toArray, List.set_cons_zero, List.set_cons_succ, i64_w, i32_w]
    rfl
  refine take_ (i := 5) (N := some 24) (v := ?_) (a' := ?_) #[true, true, true, true, true, true, false, false, false, false, false, false] rfl rfl (by kernel_rfl) (fun _ _ _ h => h) (Or.inl ⟨by rfl, ?_⟩) hHeld ?_ ?_
  rotate_left
  · rintro w' hS
    have y1 := hS.cell (p := ⟨w.heap.size, 3, none⟩) Hb.out
    rw [Hx3.out] at y1
    go_simp
    with_reducible rfl
  rotate_left
  · simp only [Act.put, List.setIfInBounds_toArray, List.set_cons_zero, List.set_cons_succ, i64_w, i32_w]
    rfl
  refine pure_ (i := 6) (N := some 25) (v := ?_) (a' := ?_) #[true, true, true, true, true, true, true, false, false, false, false, false] rfl rfl (by kernel_rfl) (fun _ _ _ h => h) (Or.inl ⟨by rfl, ?_⟩) ?_ ?_
  rotate_left
  · intro w'
    go_simp
    with_reducible rfl
  rotate_left
  · simp only [Act.put, List.setIfInBounds_toArray, List.set_cons_zero, List.set_cons_succ, i64_w, i32_w]
    rfl
  refine take_ (i := 7) (N := some 26) (v := ?_) (a' := ?_) #[true, true, true, true, true, true, true, true, false, false, false, false] rfl rfl (by kernel_rfl) (fun _ _ _ h => h) (Or.inl ⟨by rfl, ?_⟩) hHeld ?_ ?_
  rotate_left
  · rintro w' hS
    have y1 := hS.cell (p := ⟨w.heap.size, 2, none⟩) Hb.out
    rw [Hx2.out] at y1
    go_simp
    with_reducible rfl
  rotate_left
  · simp only [Act.put, List.setIfInBounds_toArray, List.set_cons_zero, List.set_cons_succ, i64_w, i32_w]
    rfl
  refine pure_ (i := 8) (N := some 27) (v := ?_) (a' := ?_) #[true, true, true, true, true, true, true, true, true, false, false, false] rfl rfl (by kernel_rfl) (fun _ _ _ h => h) (Or.inl ⟨by rfl, ?_⟩) ?_ ?_
  rotate_left
  · intro w'
    go_simp
    with_reducible rfl
  rotate_left
  · simp only [Act.put, List.setIfInBounds_toArray, List.set_cons_zero, List.set_cons_succ, i64_w, i32_w]
    rfl
  refine one_ (i := 9) (N := some 28) #[true, true, true, true, true, true, true, true, true, true, false, false] rfl rfl (by kernel_rfl) (by decide) (fun K hK => ?_)
  refine goes_ Try.func38 (by kernel_rfl) rfl #[.int .i64 8, .int .i64 1, .int .i64 85] (by rfl) rfl rfl (by (try simp only [List.map_toArray, List.map_cons, List.map_nil]); first | done | rfl) ?_
  with_reducible refine (within_yes 8 1 85 _ (by omega) (by omega)).mono ?_
  rintro e w' ⟨rfl, rfl⟩
  refine ⟨_, rfl, ?_⟩
  refine hK.out _ _ (hHeld) (fun hHeld => ?_)
  clear hK K
  refine norm_ (a' := ?_) ?_ ?_
  rotate_left
  · show Act.put _ (some 28) _ = _
    simp only [Act.put, List.setIfInBounds_toArray, List.set_cons_zero, List.set_cons_succ, i64_w, i32_w]
    rfl
  refine pure_ (i := 10) (N := some 29) (v := ?_) (a' := ?_) #[true, true, true, true, true, true, true, true, true, true, true, false] rfl rfl (by kernel_rfl) (fun _ _ _ h => h) (Or.inl ⟨by rfl, ?_⟩) ?_ ?_
  rotate_left
  · intro w'
    go_simp
    with_reducible rfl
  rotate_left
  · simp only [Act.put, List.setIfInBounds_toArray, List.set_cons_zero, List.set_cons_succ, i64_w, i32_w]
    rfl
  refine pure_ (i := 11) (N := some 2) (v := ?_) (a' := ?_) #[true, true, true, true, true, true, true, true, true, true, true, true] rfl rfl (by kernel_rfl) (fun _ _ _ h => h) (Or.inl ⟨by rfl, ?_⟩) ?_ ?_
  rotate_left
  · intro w'
    go_simp
    with_reducible rfl
  rotate_left
  · simp only [Act.put, List.setIfInBounds_toArray, List.set_cons_zero, List.set_cons_succ, i64_w, i32_w]
    rfl
  refine done_ (by kernel_rfl) ?_
  go_wp2_with fail
  go_ret
  exact ⟨rfl, below_weaken HB1.out (Nat.le_refl _) (hHeld.mono HB1.out.size)⟩
set_option maxHeartbeats 4000000 in
set_option maxRecDepth 100000 in
theorem meta_geo (w : World) : Calls Try.prog 33 #[.agg geoC] w fun e w' => e = .returned (.int .i64 9) ∧ Below w.heap.size w w' := by
  unfold geoC
  go_enter Try.func33, Try.ntmps33
  go_wp2_with fail
  obtain ⟨w1, hw1⟩ : ∃ w1, w.alloc (Obj.cells #[.int .i64 30, .int .i64 12, .int .i64 6, .int .i64 8] 25) = w1 := ⟨_, rfl⟩
  have hB1 : Below w.heap.size w w1 := by rw [← hw1]; exact below_alloc (Below.refl _ _) _
  have hb : w1.heap[w.heap.size]? = some (.cells #[.int .i64 30, .int .i64 12, .int .i64 6, .int .i64 8] 25 (0, 0)) := by rw [← hw1]; exact blk_new _ _
  rw [hw1]
  have Hb := Lib.hid hb
  have HB1 := Lib.hid hB1
  clear hw1 hb hB1
  refine (right_geo w1).mono ?_
  rintro e w2 ⟨rfl, hB2⟩
  have x1 : w2.cell? ⟨w.heap.size, 1, none⟩ = some (.int .i64 12) := blk_cell (blk_below Hb.out hB2) 1
  have HB2 := Lib.hid (below_step HB1.out hB2)
  clear hB2
  go_wp2_with fail
  go_ret
  exact ⟨rfl, HB2.out⟩
/-- The closure that counts on. -/
theorem next_any (n v : Int) (g : Nat) (t : TypeId) (w : World) (h : w.heap[g]? = some (.cells #[.int .i64 v] t (0, 0))) :
    Calls Try.prog 37 #[.int .i64 n, .pointer (some ⟨g, 0, none⟩)] w fun e w' => e = .returned (.int .i64 (wrap64 (v + n))) ∧ w' = w.setCell ⟨g, 0, none⟩ (.int .i64 (wrap64 (v + n))) := by
  have x0 : w.cell? ⟨g, 0, none⟩ = some (.int .i64 v) := blk_cell h 0
  have f0 : w.frozen? ⟨g, 0, none⟩ = false := blk_frozen h 0
  have Hb := Lib.hid h
  clear h
  go_enter Try.func37, Try.ntmps37
  go_wp2_with fail
  go_ret
  exact ⟨rfl, rfl⟩
theorem nextN (n v r : Int) (g : Nat) (t : TypeId) (w : World) (h : w.heap[g]? = some (.cells #[.int .i64 v] t (0, 0))) (hr : wrap64 (v + n) = r) :
    Calls Try.prog 37 #[.int .i64 n, .pointer (some ⟨g, 0, none⟩)] w fun e w' => e = .returned (.int .i64 r) ∧ w' = w.setCell ⟨g, 0, none⟩ (.int .i64 r) := by
  subst hr; exact next_any n v g t w h
/-- A call of a closure. -/
theorem run_closure {o : Oper} {a : Act} {W : World} {x : Operand} {xs : Array Operand} {ts : Array TypeId} {f : FuncId} {fn : Func} {captured args : Array Value} (ho : o.op = .call { callee := .value x, args := xs, argTypes := ts }) (hx : a.eval x = .func (.func f) #[] captured) (hargs : xs.map a.eval = args)
    (hf : Try.prog.funcs[f]? = some fn) (hname : (fn.name == "runtime.NumGoroutine") = false) (hb : fn.body.isSome = true) : (execOp a.eval o).run Try.prog W = .ok (.enter f (args ++ captured)) W := by
  have he := enters_ hf hname hb (args ++ captured) W
  unfold execOp
  simp [ho, resolve, hx, Deferred.ofValue, invoke, hargs, he]
theorem sz_layout : (Try.prog.info? 28).map (·.size) = some 7 := by kernel_rfl
/-- What stays beside the counter. -/
structure PlanS (w : World) (gb : Nat) (W : World) : Prop where
  geo : W.heap[gb]? = some (.cells #[.int .i64 30, .int .i64 12, .int .i64 6, .int .i64 8] 25 (0, 0))
  res : W.heap[gb + 1]? = some (.cells #[.int .i64 0, .int .i64 0, .int .i64 0, .int .i64 0, .int .i64 0, .int .i64 0, .int .i64 0] 28 (0, 0))
  lt : w.heap.size ≤ gb
  below : Below w.heap.size w W
theorem PlanS.drew {w W : World} {gb : Nat} (h : PlanS w gb W) : PlanS w gb W.drew := ⟨h.geo, h.res, h.lt, h.below.drew⟩
theorem PlanS.set {w W : World} {gb g : Nat} (h : PlanS w gb W) (hg : gb + 1 < g) (u : Value) : PlanS w gb (W.setCell ⟨g, 0, none⟩ u) :=
  ⟨blk_far h.geo (p := ⟨g, 0, none⟩) (by show gb ≠ g; omega) u, blk_far h.res (p := ⟨g, 0, none⟩) (by show gb + 1 ≠ g; omega) u, h.lt, h.below.setCell (p := ⟨g, 0, none⟩) (by have := h.lt; show w.heap.size ≤ g; omega) u⟩
set_option maxHeartbeats 4000000 in
set_option maxRecDepth 100000 in
theorem plan_geo (w : World) : Calls Try.prog 16 #[.agg geoC] w fun e w' => e = .returned (.tuple #[.agg #[.int .i64 1, .int .i64 31, .int .i64 32, .int .i64 33, .int .i64 34, .int .i64 40, .int .i64 88], .int .i64 0]) ∧ Below w.heap.size w w' := by
  unfold geoC
  go_enter Try.func16, Try.ntmps16
  go_wp2_with fail
  obtain ⟨w1, hw1⟩ : ∃ w1, (w.alloc (Obj.cells #[.int .i64 30, .int .i64 12, .int .i64 6, .int .i64 8] 25)).alloc (Obj.cells #[.int .i64 0, .int .i64 0, .int .i64 0, .int .i64 0, .int .i64 0, .int .i64 0, .int .i64 0] 28) = w1 := ⟨_, rfl⟩
  have hP1 : PlanS w w.heap.size w1 := by
    rw [← hw1]
    refine ⟨blk_alloc (blk_new _ _) _, ?_, Nat.le_refl _, below_alloc (below_alloc (Below.refl _ _) _) _⟩
    have := blk_new (w.alloc (Obj.cells #[.int .i64 30, .int .i64 12, .int .i64 6, .int .i64 8] 25)) (Obj.cells #[.int .i64 0, .int .i64 0, .int .i64 0, .int .i64 0, .int .i64 0, .int .i64 0, .int .i64 0] 28)
    simpa using this
  rw [hw1]
  clear hw1
  refine (right_geo w1).mono ?_
  rintro e w2 ⟨rfl, hB2⟩
  have hP2 : PlanS w w.heap.size w2 := ⟨blk_below hP1.geo hB2, blk_below hP1.res hB2, Nat.le_refl _, below_step hP1.below hB2⟩
  have HP2 := Lib.hid hP2
  clear hP1 hP2 hB2
  go_wp2_with fail
  obtain ⟨w5, hw5⟩ : ∃ w5, w2.alloc (Obj.cells #[.int .i64 0] 3) = w5 := ⟨_, rfl⟩
  have hat : w5.heap[w2.heap.size]? = some (.cells #[.int .i64 0] 3 (0, 0)) := by rw [← hw5]; exact blk_new _ _
  have hPS : PlanS w w.heap.size w5 := by rw [← hw5]; exact ⟨blk_alloc HP2.out.geo _, blk_alloc HP2.out.res _, Nat.le_refl _, below_alloc HP2.out.below _⟩
  have hga : w.heap.size + 1 < w2.heap.size := blk_lt HP2.out.res
  try simp only [blk_setCell]
  rw [hw5]
  obtain ⟨ga, hgae⟩ : ∃ ga, w2.heap.size = ga := ⟨_, rfl⟩
  rw [hgae] at hat hga ⊢
  clear hgae hw5 HP2
  have Hga := Lib.hid hga
  clear hga
  replace hat := blk_drew hat
  have k6 : wrap64 6 = 6 := by unfold wrap64; omega
  have k48 : wrap64 48 = 48 := by unfold wrap64; omega
  refine start_ (n := 27) (S := (PlanS w w.heap.size)) (ds := [25]) #[false, false, false, false, false, false, false, false, false, false, false, false, false, false, false, false, false, false, false, false, false, false, false, false, false, false, false] (by kernel_rfl) rfl rfl (hPS.drew) (fun hHeld => ?_)
  refine pure_ (i := 0) (N := some 11) (v := ?_) (a' := ?_) #[true, false, false, false, false, false, false, false, false, false, false, false, false, false, false, false, false, false, false, false, false, false, false, false, false, false, false] rfl rfl (by kernel_rfl) (fun _ _ _ h => h) (Or.inl ⟨by rfl, ?_⟩) ?_ ?_
  rotate_left
  · intro w'
    go_simp
    with_reducible rfl
  rotate_left
  · simp only [Act.put, List.setIfInBounds_toArray, List.set_cons_zero, List.set_cons_succ, i64_w, i32_w]
    rfl
  refine pure_ (i := 2) (N := some 13) (v := ?_) (a' := ?_) #[true, false, true, false, false, false, false, false, false, false, false, false, false, false, false, false, false, false, false, false, false, false, false, false, false, false, false] rfl rfl (by kernel_rfl) (fun _ _ _ h => h) (Or.inl ⟨by rfl, ?_⟩) ?_ ?_
  rotate_left
  · intro w'
    go_simp
    with_reducible rfl
  rotate_left
  · simp only [Act.put, List.setIfInBounds_toArray, List.set_cons_zero, List.set_cons_succ, i64_w, i32_w]
    rfl
  refine pure_ (i := 3) (N := some 14) (v := ?_) (a' := ?_) #[true, false, true, true, false, false, false, false, false, false, false, false, false, false, false, false, false, false, false, false, false, false, false, false, false, false, false] rfl rfl (by kernel_rfl) (fun _ _ _ h => h) (Or.inl ⟨by rfl, ?_⟩) ?_ ?_
  rotate_left
  · intro w'
    go_simp
    with_reducible rfl
  rotate_left
  · simp only [Act.put, List.setIfInBounds_toArray, List.set_cons_zero, List.set_cons_succ, i64_w, i32_w]
    rfl
  refine take_ (i := 4) (N := some 15) (v := ?_) (a' := ?_) #[true, false, true, true, true, false, false, false, false, false, false, false, false, false, false, false, false, false, false, false, false, false, false, false, false, false, false] rfl rfl (by kernel_rfl) (fun _ _ _ h => h) (Or.inl ⟨by rfl, ?_⟩) hHeld ?_ ?_
  rotate_left
  · rintro w' hS
    have y1 : w'.cell? ⟨w.heap.size, 0, none⟩ = some (.int .i64 30) := blk_cell hS.geo 0
    go_simp
    with_reducible rfl
  rotate_left
  · simp only [Act.put, List.setIfInBounds_toArray, List.set_cons_zero, List.set_cons_succ, i64_w, i32_w]
    rfl
  refine pure_ (i := 6) (N := some 17) (v := ?_) (a' := ?_) #[true, false, true, true, true, false, true, false, false, false, false, false, false, false, false, false, false, false, false, false, false, false, false, false, false, false, false] rfl rfl (by kernel_rfl) (fun _ _ _ h => h) (Or.inl ⟨by rfl, ?_⟩) ?_ ?_
  rotate_left
  · intro w'
    go_simp
    with_reducible rfl
  rotate_left
  · simp only [Act.put, List.setIfInBounds_toArray, List.set_cons_zero, List.set_cons_succ, i64_w, i32_w]
    rfl
  refine pure_ (i := 8) (N := some 19) (v := ?_) (a' := ?_) #[true, false, true, true, true, false, true, false, true, false, false, false, false, false, false, false, false, false, false, false, false, false, false, false, false, false, false] rfl rfl (by kernel_rfl) (fun _ _ _ h => h) (Or.inl ⟨by rfl, ?_⟩) ?_ ?_
  rotate_left
  · intro w'
    go_simp
    with_reducible rfl
  rotate_left
  · simp only [Act.put, List.setIfInBounds_toArray, List.set_cons_zero, List.set_cons_succ, i64_w, i32_w]
    rfl
  refine pure_ (i := 10) (N := some 21) (v := ?_) (a' := ?_) #[true, false, true, true, true, false, true, false, true, false, true, false, false, false, false, false, false, false, false, false, false, false, false, false, false, false, false] rfl rfl (by kernel_rfl) (fun _ _ _ h => h) (Or.inl ⟨by rfl, ?_⟩) ?_ ?_
  rotate_left
  · intro w'
    go_simp
    with_reducible rfl
  rotate_left
  · simp only [Act.put, List.setIfInBounds_toArray, List.set_cons_zero, List.set_cons_succ, i64_w, i32_w]
    rfl
  refine pure_ (i := 12) (N := some 23) (v := ?_) (a' := ?_) #[true, false, true, true, true, false, true, false, true, false, true, false, true, false, false, false, false, false, false, false, false, false, false, false, false, false, false] rfl rfl (by kernel_rfl) (fun _ _ _ h => h) (Or.inl ⟨by rfl, ?_⟩) ?_ ?_
  rotate_left
  · intro w'
    go_simp
    with_reducible rfl
  rotate_left
  · simp only [Act.put, List.setIfInBounds_toArray, List.set_cons_zero, List.set_cons_succ, i64_w, i32_w]
    rfl
  refine pure_ (i := 13) (N := some 24) (v := ?_) (a' := ?_) #[true, false, true, true, true, false, true, false, true, false, true, false, true, true, false, false, false, false, false, false, false, false, false, false, false, false, false] rfl rfl (by kernel_rfl) (fun _ _ _ h => h) (Or.inl ⟨by rfl, ?_⟩) ?_ ?_
  rotate_left
  · intro w'
    go_simp
    with_reducible rfl
  rotate_left
  · simp only [Act.put, List.setIfInBounds_toArray, List.set_cons_zero, List.set_cons_succ, i64_w, i32_w]
    rfl
  refine take_ (i := 14) (N := some 25) (v := ?_) (a' := ?_) #[true, false, true, true, true, false, true, false, true, false, true, false, true, true, true, false, false, false, false, false, false, false, false, false, false, false, false] rfl rfl (by kernel_rfl) (fun _ _ _ h => h) (Or.inl ⟨by rfl, ?_⟩) hHeld ?_ ?_
  rotate_left
  · rintro w' hS
    have y1 : w'.cell? ⟨w.heap.size, 1, none⟩ = some (.int .i64 12) := blk_cell hS.geo 1
    go_simp
    with_reducible rfl
  rotate_left
  · simp only [Act.put, List.setIfInBounds_toArray, List.set_cons_zero, List.set_cons_succ, i64_w, i32_w]
    rfl
  refine pure_ (i := 15) (N := some 26) (v := ?_) (a' := ?_) #[true, false, true, true, true, false, true, false, true, false, true, false, true, true, true, true, false, false, false, false, false, false, false, false, false, false, false] rfl rfl (by kernel_rfl) (fun _ _ _ h => h) (Or.inl ⟨by rfl, ?_⟩) ?_ ?_
  rotate_left
  · intro w'
    go_simp
    with_reducible rfl
  rotate_left
  · simp only [Act.put, List.setIfInBounds_toArray, List.set_cons_zero, List.set_cons_succ, i64_w, i32_w]
    rfl
  rw [k6]
  refine pure_ (i := 17) (N := some 28) (v := ?_) (a' := ?_) #[true, false, true, true, true, false, true, false, true, false, true, false, true, true, true, true, false, true, false, false, false, false, false, false, false, false, false] rfl rfl (by kernel_rfl) (fun _ _ _ h => h) (Or.inl ⟨by rfl, ?_⟩) ?_ ?_
  rotate_left
  · intro w'
    go_simp
    with_reducible rfl
  rotate_left
  · simp only [Act.put, List.setIfInBounds_toArray, List.set_cons_zero, List.set_cons_succ, i64_w, i32_w]
    rfl
  refine pure_ (i := 18) (N := some 29) (v := ?_) (a' := ?_) #[true, false, true, true, true, false, true, false, true, false, true, false, true, true, true, true, false, true, true, false, false, false, false, false, false, false, false] rfl rfl (by kernel_rfl) (fun _ _ _ h => h) (Or.inl ⟨by rfl, ?_⟩) ?_ ?_
  rotate_left
  · intro w'
    go_simp
    with_reducible rfl
  rotate_left
  · simp only [Act.put, List.setIfInBounds_toArray, List.set_cons_zero, List.set_cons_succ, i64_w, i32_w]
    rfl
  refine take_ (i := 19) (N := some 30) (v := ?_) (a' := ?_) #[true, false, true, true, true, false, true, false, true, false, true, false, true, true, true, true, false, true, true, true, false, false, false, false, false, false, false] rfl rfl (by kernel_rfl) (fun _ _ _ h => h) (Or.inl ⟨by rfl, ?_⟩) hHeld ?_ ?_
  rotate_left
  · rintro w' hS
    have y1 : w'.cell? ⟨w.heap.size, 2, none⟩ = some (.int .i64 6) := blk_cell hS.geo 2
    go_simp
    with_reducible rfl
  rotate_left
  · simp only [Act.put, List.setIfInBounds_toArray, List.set_cons_zero, List.set_cons_succ, i64_w, i32_w]
    rfl
  refine pure_ (i := 20) (N := some 31) (v := ?_) (a' := ?_) #[true, false, true, true, true, false, true, false, true, false, true, false, true, true, true, true, false, true, true, true, true, false, false, false, false, false, false] rfl rfl (by kernel_rfl) (fun _ _ _ h => h) (Or.inl ⟨by rfl, ?_⟩) ?_ ?_
  rotate_left
  · intro w'
    go_simp
    with_reducible rfl
  rotate_left
  · simp only [Act.put, List.setIfInBounds_toArray, List.set_cons_zero, List.set_cons_succ, i64_w, i32_w]
    rfl
  refine take_ (i := 21) (N := some 32) (v := ?_) (a' := ?_) #[true, false, true, true, true, false, true, false, true, false, true, false, true, true, true, true, false, true, true, true, true, true, false, false, false, false, false] rfl rfl (by kernel_rfl) (fun _ _ _ h => h) (Or.inl ⟨by rfl, ?_⟩) hHeld ?_ ?_
  rotate_left
  · rintro w' hS
    have y1 : w'.cell? ⟨w.heap.size, 3, none⟩ = some (.int .i64 8) := blk_cell hS.geo 3
    go_simp
    with_reducible rfl
  rotate_left
  · simp only [Act.put, List.setIfInBounds_toArray, List.set_cons_zero, List.set_cons_succ, i64_w, i32_w]
    rfl
  refine pure_ (i := 22) (N := some 33) (v := ?_) (a' := ?_) #[true, false, true, true, true, false, true, false, true, false, true, false, true, true, true, true, false, true, true, true, true, true, true, false, false, false, false] rfl rfl (by kernel_rfl) (fun _ _ _ h => h) (Or.inl ⟨by rfl, ?_⟩) ?_ ?_
  rotate_left
  · intro w'
    go_simp
    with_reducible rfl
  rotate_left
  · simp only [Act.put, List.setIfInBounds_toArray, List.set_cons_zero, List.set_cons_succ, i64_w, i32_w]
    rfl
  rw [k48]
  refine one_ (i := 1) (N := some 12) #[true, true, true, true, true, false, true, false, true, false, true, false, true, true, true, true, false, true, true, true, true, true, true, false, false, false, false] rfl rfl (by kernel_rfl) (by decide) (fun K hK => ?_)
  refine call_ 37 #[.int .i64 1, .pointer (some ⟨ga, 0, none⟩)] (by rfl) rfl (run_closure (args := #[.int .i64 1]) (captured := #[.pointer (some ⟨ga, 0, none⟩)]) rfl rfl (by (try simp only [List.map_toArray, List.map_cons, List.map_nil]); rfl) Try.func37 (by kernel_rfl) rfl) ?_
  with_reducible refine (nextN 1 0 1 ga _ _ hat (by unfold wrap64; omega)).mono ?_
  rintro e w9 ⟨rfl, hw9⟩
  replace hat : w9.heap[ga]? = some (.cells #[.int .i64 1] 3 (0, 0)) := by rw [hw9]; exact blk_put hat 0 (.int .i64 1) (cs' := #[.int .i64 1]) rfl
  have hK9 : PlanS w w.heap.size w9 := by rw [hw9]; exact hHeld.set Hga.out _
  clear hw9 hHeld
  refine ⟨_, rfl, ?_⟩
  refine hK.out _ _ (hK9) (fun hHeld => ?_)
  clear hK K
  refine norm_ (a' := ?_) ?_ ?_
  rotate_left
  · show Act.put _ (some 12) _ = _
    simp only [Act.put, List.setIfInBounds_toArray, List.set_cons_zero, List.set_cons_succ, i64_w, i32_w]
    rfl
  refine one_ (i := 5) (N := some 16) #[true, true, true, true, true, true, true, false, true, false, true, false, true, true, true, true, false, true, true, true, true, true, true, false, false, false, false] rfl rfl (by kernel_rfl) (by decide) (fun K hK => ?_)
  refine call_ 37 #[.int .i64 30, .pointer (some ⟨ga, 0, none⟩)] (by rfl) rfl (run_closure (args := #[.int .i64 30]) (captured := #[.pointer (some ⟨ga, 0, none⟩)]) rfl rfl (by (try simp only [List.map_toArray, List.map_cons, List.map_nil]); rfl) Try.func37 (by kernel_rfl) rfl) ?_
  with_reducible refine (nextN 30 1 31 ga _ _ hat (by unfold wrap64; omega)).mono ?_
  rintro e w9 ⟨rfl, hw9⟩
  replace hat : w9.heap[ga]? = some (.cells #[.int .i64 31] 3 (0, 0)) := by rw [hw9]; exact blk_put hat 0 (.int .i64 31) (cs' := #[.int .i64 31]) rfl
  have hK9 : PlanS w w.heap.size w9 := by rw [hw9]; exact hHeld.set Hga.out _
  clear hw9 hHeld
  refine ⟨_, rfl, ?_⟩
  refine hK.out _ _ (hK9) (fun hHeld => ?_)
  clear hK K
  refine norm_ (a' := ?_) ?_ ?_
  rotate_left
  · show Act.put _ (some 16) _ = _
    simp only [Act.put, List.setIfInBounds_toArray, List.set_cons_zero, List.set_cons_succ, i64_w, i32_w]
    rfl
  refine one_ (i := 7) (N := some 18) #[true, true, true, true, true, true, true, true, true, false, true, false, true, true, true, true, false, true, true, true, true, true, true, false, false, false, false] rfl rfl (by kernel_rfl) (by decide) (fun K hK => ?_)
  refine call_ 37 #[.int .i64 1, .pointer (some ⟨ga, 0, none⟩)] (by rfl) rfl (run_closure (args := #[.int .i64 1]) (captured := #[.pointer (some ⟨ga, 0, none⟩)]) rfl rfl (by (try simp only [List.map_toArray, List.map_cons, List.map_nil]); rfl) Try.func37 (by kernel_rfl) rfl) ?_
  with_reducible refine (nextN 1 31 32 ga _ _ hat (by unfold wrap64; omega)).mono ?_
  rintro e w9 ⟨rfl, hw9⟩
  replace hat : w9.heap[ga]? = some (.cells #[.int .i64 32] 3 (0, 0)) := by rw [hw9]; exact blk_put hat 0 (.int .i64 32) (cs' := #[.int .i64 32]) rfl
  have hK9 : PlanS w w.heap.size w9 := by rw [hw9]; exact hHeld.set Hga.out _
  clear hw9 hHeld
  refine ⟨_, rfl, ?_⟩
  refine hK.out _ _ (hK9) (fun hHeld => ?_)
  clear hK K
  refine norm_ (a' := ?_) ?_ ?_
  rotate_left
  · show Act.put _ (some 18) _ = _
    simp only [Act.put, List.setIfInBounds_toArray, List.set_cons_zero, List.set_cons_succ, i64_w, i32_w]
    rfl
  refine one_ (i := 9) (N := some 20) #[true, true, true, true, true, true, true, true, true, true, true, false, true, true, true, true, false, true, true, true, true, true, true, false, false, false, false] rfl rfl (by kernel_rfl) (by decide) (fun K hK => ?_)
  refine call_ 37 #[.int .i64 1, .pointer (some ⟨ga, 0, none⟩)] (by rfl) rfl (run_closure (args := #[.int .i64 1]) (captured := #[.pointer (some ⟨ga, 0, none⟩)]) rfl rfl (by (try simp only [List.map_toArray, List.map_cons, List.map_nil]); rfl) Try.func37 (by kernel_rfl) rfl) ?_
  with_reducible refine (nextN 1 32 33 ga _ _ hat (by unfold wrap64; omega)).mono ?_
  rintro e w9 ⟨rfl, hw9⟩
  replace hat : w9.heap[ga]? = some (.cells #[.int .i64 33] 3 (0, 0)) := by rw [hw9]; exact blk_put hat 0 (.int .i64 33) (cs' := #[.int .i64 33]) rfl
  have hK9 : PlanS w w.heap.size w9 := by rw [hw9]; exact hHeld.set Hga.out _
  clear hw9 hHeld
  refine ⟨_, rfl, ?_⟩
  refine hK.out _ _ (hK9) (fun hHeld => ?_)
  clear hK K
  refine norm_ (a' := ?_) ?_ ?_
  rotate_left
  · show Act.put _ (some 20) _ = _
    simp only [Act.put, List.setIfInBounds_toArray, List.set_cons_zero, List.set_cons_succ, i64_w, i32_w]
    rfl
  refine one_ (i := 11) (N := some 22) #[true, true, true, true, true, true, true, true, true, true, true, true, true, true, true, true, false, true, true, true, true, true, true, false, false, false, false] rfl rfl (by kernel_rfl) (by decide) (fun K hK => ?_)
  refine call_ 37 #[.int .i64 1, .pointer (some ⟨ga, 0, none⟩)] (by rfl) rfl (run_closure (args := #[.int .i64 1]) (captured := #[.pointer (some ⟨ga, 0, none⟩)]) rfl rfl (by (try simp only [List.map_toArray, List.map_cons, List.map_nil]); rfl) Try.func37 (by kernel_rfl) rfl) ?_
  with_reducible refine (nextN 1 33 34 ga _ _ hat (by unfold wrap64; omega)).mono ?_
  rintro e w9 ⟨rfl, hw9⟩
  replace hat : w9.heap[ga]? = some (.cells #[.int .i64 34] 3 (0, 0)) := by rw [hw9]; exact blk_put hat 0 (.int .i64 34) (cs' := #[.int .i64 34]) rfl
  have hK9 : PlanS w w.heap.size w9 := by rw [hw9]; exact hHeld.set Hga.out _
  clear hw9 hHeld
  refine ⟨_, rfl, ?_⟩
  refine hK.out _ _ (hK9) (fun hHeld => ?_)
  clear hK K
  refine norm_ (a' := ?_) ?_ ?_
  rotate_left
  · show Act.put _ (some 22) _ = _
    simp only [Act.put, List.setIfInBounds_toArray, List.set_cons_zero, List.set_cons_succ, i64_w, i32_w]
    rfl
  refine one_ (i := 16) (N := some 27) #[true, true, true, true, true, true, true, true, true, true, true, true, true, true, true, true, true, true, true, true, true, true, true, false, false, false, false] rfl rfl (by kernel_rfl) (by decide) (fun K hK => ?_)
  refine call_ 37 #[.int .i64 6, .pointer (some ⟨ga, 0, none⟩)] (by rfl) rfl (run_closure (args := #[.int .i64 6]) (captured := #[.pointer (some ⟨ga, 0, none⟩)]) rfl rfl (by (try simp only [List.map_toArray, List.map_cons, List.map_nil]); rfl) Try.func37 (by kernel_rfl) rfl) ?_
  with_reducible refine (nextN 6 34 40 ga _ _ hat (by unfold wrap64; omega)).mono ?_
  rintro e w9 ⟨rfl, hw9⟩
  replace hat : w9.heap[ga]? = some (.cells #[.int .i64 40] 3 (0, 0)) := by rw [hw9]; exact blk_put hat 0 (.int .i64 40) (cs' := #[.int .i64 40]) rfl
  have hK9 : PlanS w w.heap.size w9 := by rw [hw9]; exact hHeld.set Hga.out _
  clear hw9 hHeld
  refine ⟨_, rfl, ?_⟩
  refine hK.out _ _ (hK9) (fun hHeld => ?_)
  clear hK K
  refine norm_ (a' := ?_) ?_ ?_
  rotate_left
  · show Act.put _ (some 27) _ = _
    simp only [Act.put, List.setIfInBounds_toArray, List.set_cons_zero, List.set_cons_succ, i64_w, i32_w]
    rfl
  refine one_ (i := 23) (N := some 34) #[true, true, true, true, true, true, true, true, true, true, true, true, true, true, true, true, true, true, true, true, true, true, true, true, false, false, false] rfl rfl (by kernel_rfl) (by decide) (fun K hK => ?_)
  refine call_ 37 #[.int .i64 48, .pointer (some ⟨ga, 0, none⟩)] (by rfl) rfl (run_closure (args := #[.int .i64 48]) (captured := #[.pointer (some ⟨ga, 0, none⟩)]) rfl rfl (by (try simp only [List.map_toArray, List.map_cons, List.map_nil]); rfl) Try.func37 (by kernel_rfl) rfl) ?_
  with_reducible refine (nextN 48 40 88 ga _ _ hat (by unfold wrap64; omega)).mono ?_
  rintro e w9 ⟨rfl, hw9⟩
  replace hat : w9.heap[ga]? = some (.cells #[.int .i64 88] 3 (0, 0)) := by rw [hw9]; exact blk_put hat 0 (.int .i64 88) (cs' := #[.int .i64 88]) rfl
  have hK9 : PlanS w w.heap.size w9 := by rw [hw9]; exact hHeld.set Hga.out _
  clear hw9 hHeld
  refine ⟨_, rfl, ?_⟩
  refine hK.out _ _ (hK9) (fun hHeld => ?_)
  clear hK K
  refine norm_ (a' := ?_) ?_ ?_
  rotate_left
  · show Act.put _ (some 34) _ = _
    simp only [Act.put, List.setIfInBounds_toArray, List.set_cons_zero, List.set_cons_succ, i64_w, i32_w]
    rfl
  refine pure_ (i := 24) (N := some 35) (v := .agg #[.int .i64 1, .int .i64 31, .int .i64 32, .int .i64 33, .int .i64 34, .int .i64 40, .int .i64 88]) (a' := ?_) #[true, true, true, true, true, true, true, true, true, true, true, true, true, true, true, true, true, true, true, true, true, true, true, true, true, false, false] rfl rfl (by kernel_rfl) (fun _ _ _ h => h) (yields_build (by rfl) 28 #[(0, .tmp 12), (1, .tmp 16), (2, .tmp 18), (3, .tmp 20), (4, .tmp 22), (5, .tmp 27), (6, .tmp 34)] rfl _ #[.int .i64 1, .int .i64 31, .int .i64 32, .int .i64 33, .int .i64 34, .int .i64 40, .int .i64 88] (by simp only [List.map_toArray, List.map_cons, List.map_nil]; rfl) (by kernel_rfl)) ?_ ?_
  rotate_left
  · simp only [Act.put, List.setIfInBounds_toArray, List.set_cons_zero, List.set_cons_succ, i64_w, i32_w]
    rfl
  refine last_ (i := 25) (N := none) #[true, true, true, true, true, true, true, true, true, true, true, true, true, true, true, true, true, true, true, true, true, true, true, true, true, true, false] rfl rfl (by kernel_rfl) (by decide) (fun K hK => ?_)
  refine skip_ (by rfl) rfl (run_exec_store rfl rfl rfl (store_row (ty := 28) (cells := #[.int .i64 1, .int .i64 31, .int .i64 32, .int .i64 33, .int .i64 34, .int .i64 40, .int .i64 88]) hHeld.res (by rw [sz_layout]; rfl) rfl (by simp [Value.oneCell']))) ?_
  refine hK.out _ _ ?_
  clear hK K
  refine pure_ (i := 26) (N := some 3) (v := ?_) (a' := ?_) #[true, true, true, true, true, true, true, true, true, true, true, true, true, true, true, true, true, true, true, true, true, true, true, true, true, true, true] rfl rfl (by kernel_rfl) (fun _ _ _ h => h) (Or.inl ⟨by rfl, ?_⟩) ?_ ?_
  rotate_left
  · intro w'
    go_simp
    with_reducible rfl
  rotate_left
  · simp only [Act.put, List.setIfInBounds_toArray, List.set_cons_zero, List.set_cons_succ, i64_w, i32_w]
    rfl
  refine done_ (by kernel_rfl) ?_
  go_wp2_with fail
  refine bodyPost_ret (results_cell_tmp rfl _ _ (w.heap.size + 1) 28 #[.int .i64 1, .int .i64 31, .int .i64 32, .int .i64 33, .int .i64 34, .int .i64 40, .int .i64 88] (0, 0) _ rfl ?_ Try.underlying28 rfl sz_layout) rfl ?_
  · exact setRow_heap w9 _ _ _ _ _ hHeld.res
  · exact ⟨rfl, below_setRow hHeld.below (by omega) _⟩
end Go.Proofs.Ytpbijdalfeaheaa.Tf

/- disk.New, of 88 sectors. -/
namespace Go.Proofs.Ytpbijdalfeaheaa.Tf
open Go.RowKit Go.Proofs.YtpbijdalfeaheaaW.PrintWords Go.Proofs.YtpbijdalfeaheaaW.PrintLast Go.Proofs.YtpbijdalfeaheaaW.PrintMore
set_option linter.unusedVariables false
set_option linter.unusedSimpArgs false
theorem many_len (l : List Value) (n : Nat) : (List.replicate n l).flatten.length = n * l.length := by simp
theorem many_get (l : List Value) (h0 : 0 < l.length) : ∀ (n i : Nat) (h : i < (List.replicate n l).flatten.length), (List.replicate n l).flatten[i] = l[i % l.length]'(Nat.mod_lt _ h0) := by
  intro n
  induction n with
  | zero => intro i h; simp at h
  | succ n ih =>
    intro i h
    have e : (List.replicate (n + 1) l).flatten = l ++ (List.replicate n l).flatten := by simp [List.replicate_succ]
    have hl := many_len l (n + 1)
    have hl' := many_len l n
    have h2 : i < (l ++ (List.replicate n l).flatten).length := by rw [← e]; exact h
    have h3 : (List.replicate (n + 1) l).flatten[i] = (l ++ (List.replicate n l).flatten)[i] := by simp [e]
    rw [h3]
    by_cases hi : i < l.length
    · rw [List.getElem_append_left hi]
      simp [Nat.mod_eq_of_lt hi]
    · rw [List.getElem_append_right (by omega), ih]
      have : (i - l.length) % l.length = i % l.length := by rw [← Nat.mod_eq_sub_mod (by omega)]
      simp [this]
theorem made_many (z : Array Value) (n : Nat) (h0 : 0 < z.size) : madeCells z (n * z.size) = (List.replicate n z.toList).flatten.toArray := by
  apply Array.ext
  · simp [madeCells]
  · intro i h1 h2
    have h3 : i % z.size < z.size := Nat.mod_lt _ h0
    have h4 := many_get z.toList (by simpa using h0) n i (by simpa using h2)
    simp [madeCells, h3]
    rw [h4]
    simp
/-- make, of elements of many cells. -/
theorem made_rows (t e : TypeId) (z : Value) (size bytes : Nat) (ht : Try.prog.underlying t = some (.slice e)) (hinfo : (Try.prog.info? e).map (fun i => (i.zero, i.size, i.bytes)) = some (some z, size, bytes)) (hz : z.cells.size = size) (h0 : 0 < size)
    (n : Nat) (hb : bytes * n ≤ 281474976710656) (h63 : n ≤ 9223372036854775807) (w : World) :
    (Instr.makeSlice t (.int .i64 (n : Int)) (.int .i64 (n : Int))).run Try.prog w = .ok (.slice (some ⟨w.heap.size, 0, none⟩) n n) (w.alloc (.cells (List.replicate n z.cells.toList).flatten.toArray e)) := by
  obtain ⟨i, hi, hzz⟩ := Option.map_eq_some_iff.1 hinfo
  simp only [Prod.mk.injEq] at hzz
  obtain ⟨hz1, hs, hbb⟩ := hzz
  have hb' : (i.bytes : Int) * (n : Int) ≤ 281474976710656 := by
    have h : ((i.bytes * n : Nat) : Int) ≤ 281474976710656 := by rw [hbb]; omega
    rwa [Int.natCast_mul] at h
  have hr := run_make (P := Try.prog) w t e i z ht hi hz1 .i64 .i64 n n (by omega) (Int.le_refl _) hb' (by omega)
  simp only [Int.toNat_natCast, hs] at hr
  rw [← hz, made_many _ _ (by omega)] at hr
  exact hr
def zeroSec : Value := .agg ((nums .u8 zeroB).toArray.push (.int .u16 0))
theorem made_disk (w : World) : (Instr.makeSlice 89 (.int .i64 88) (.int .i64 88)).run Try.prog w = .ok (.slice (some ⟨w.heap.size, 0, none⟩) 88 88) (w.alloc (.cells ((List.replicate 88 zeroB).flatMap secC).toArray 95)) := by
  have h := made_rows 89 95 zeroSec 65 66 Try.underlying89 (by kernel_rfl) (by kernel_rfl) (by omega) 88 (by omega) (by omega) w
  rw [show ((List.replicate 88 zeroB).flatMap secC) = (List.replicate 88 zeroSec.cells.toList).flatten by rw [List.flatMap_def, List.map_replicate]; congr 1]
  exact h
/-- A new disk. -/
def dk0 : Dk := { secs := List.replicate 88 zeroB, waits := [], dead := false, fuse := -1 }
set_option maxHeartbeats 4000000 in
set_option maxRecDepth 100000 in
theorem disk_new (w : World) : Calls Try.prog 17 #[.int .i64 88] w fun e w' => e = .returned (.tuple #[.pointer (some ⟨w.heap.size + 1, 0, none⟩), .int .i64 0]) ∧ DiskAt w' (w.heap.size + 2) (w.heap.size + 1) w.heap.size dk0 ∧ w'.heap.size = w.heap.size + 2 ∧ Below w.heap.size w w' := by
  obtain ⟨cs, hcs⟩ : ∃ cs, ((List.replicate 88 zeroB).flatMap secC).toArray = cs := ⟨_, rfl⟩
  have hm := made_disk
  rw [hcs] at hm
  go_enter Try.func17, Try.ntmps17
  go_wp2_with fail
  go_ret2
  refine ⟨rfl, ?_, by simp, below_alloc (below_alloc (Below.refl _ _) _) _⟩
  have hb1 : ((w.alloc (Obj.cells cs 95)).alloc (Obj.cells #[Value.slice (some { block := w.heap.size, off := 0 }) 88 88, Value.slice none 0 0, Value.bool false, Value.int IntKind.i64 (-1), Value.int IntKind.i64 0] 92)).heap[w.heap.size + 1]? = some (.cells (discs w.heap.size 88 (.slice none 0 0) false (-1) 0) 92 (0, 0)) := by
    have := blk_new (w.alloc (Obj.cells cs 95)) (Obj.cells #[Value.slice (some { block := w.heap.size, off := 0 }) 88 88, Value.slice none 0 0, Value.bool false, Value.int IntKind.i64 (-1), Value.int IntKind.i64 0] 92)
    simpa [discs] using this
  refine ⟨⟨.slice none 0 0, 0, hb1, Kd.R_nil _ _ _ _ _⟩, ?_, ?_, ?_, by omega, by omega, by decide, fun _ => blk_cell hb1 1⟩
  · show _ = some (Obj.cells ((List.replicate 88 zeroB).flatMap secC).toArray 95 (0, 0))
    rw [hcs]
    exact blk_alloc (blk_new _ _) _
  · intro s hs
    rw [List.eq_of_mem_replicate hs]
    simp [zeroB]
  · simp [dk0]
end Go.Proofs.Ytpbijdalfeaheaa.Tf

/- moattop.empty at the one geometry. -/
namespace Go.Proofs.Ytpbijdalfeaheaa.Tf
open Go.RowKit Go.Proofs.YtpbijdalfeaheaaW.PrintWords Go.Proofs.YtpbijdalfeaheaaW.PrintLast Go.Proofs.YtpbijdalfeaheaaW.PrintMore
set_option linter.unusedVariables false
set_option linter.unusedSimpArgs false
/-- Where what lies. -/
def layC : Array Value := #[.int .i64 1, .int .i64 31, .int .i64 32, .int .i64 33, .int .i64 34, .int .i64 40, .int .i64 88]
def lay0 : Array Value := #[.int .i64 0, .int .i64 0, .int .i64 0, .int .i64 0, .int .i64 0, .int .i64 0, .int .i64 0]
/-- Three results, the middle one in memory. -/
theorem results_tct {fn : Func} {p u v : Tmp} {ty : TypeId} (h : fn.results = #[.tmp u, .cell p ty, .tmp v]) (tmps : Array Value) (w : World) (g : Nat) (t : TypeId) (cs : Array Value) (fr : Nat × Nat) (d : TypeDesc)
    (hp : tmps.getD p undef = .pointer (some ⟨g, 0, none⟩)) (hg : w.heap[g]? = some (.cells cs t fr))
    (hu : Try.prog.underlying ty = some d) (hd : d.isRow = true) (hi : (Try.prog.info? ty).map (·.size) = some cs.size) :
    (results fn tmps).run Try.prog w = .ok (.tuple #[tmps.getD u undef, .agg cs, tmps.getD v undef]) w := by
  have hp' : tmps[p]?.getD undef = .pointer (some ⟨g, 0, none⟩) := by simpa using hp
  have hl := run_loadVar_mid (P := Try.prog) w g 0 ty cs.toList d (fun j v hj => by rw [Nat.zero_add, cell_of_row w g j cs t fr hg]; simpa using hj) hu hd (by rw [hi, Array.length_toList])
  simp [results, h, hp', asAddr, hl]
/-- What holds while the three results are laid. -/
structure EmpS (w : World) (g3 g5 B gd gs : Nat) (W : World) : Prop where
  at5 : W.heap[g5]? = some (.cells layC 28 (0, 0))
  at3 : ∃ old, W.heap[g3]? = some (.cells old 28 (0, 0)) ∧ old.size = 7
  disk : DiskAt W B gd gs dk0
  size : B ≤ W.heap.size
  below : Below w.heap.size w W
theorem EmpS.drew {w W : World} {g3 g5 B gd gs : Nat} (h : EmpS w g3 g5 B gd gs W) : EmpS w g3 g5 B gd gs W.drew :=
  ⟨blk_drew h.at5, h.at3, h.disk.below (below_drew (Below.refl _ _)), h.size, h.below.drew⟩
theorem EmpS.row {w W : World} {g3 g5 B gd gs : Nat} (h : EmpS w g3 g5 B gd gs W) (hg : g3 ≠ g5 ∧ g3 ≠ gd ∧ g3 ≠ gs ∧ w.heap.size ≤ g3 ∧ g3 < B) : EmpS w g3 g5 B gd gs (W.setRow g3 layC) := by
  obtain ⟨old, h3, hs⟩ := h.at3
  have F : Fr (· = g3) W (W.setRow g3 layC) := Fr.setRow (Fr.refl (fun x => x = g3) W) (.inl rfl) _
  refine ⟨blk_kept h.at5 F.kept (fun e => hg.1 e.symm), ⟨layC, setRow_heap _ _ _ _ _ _ h3, rfl⟩, h.disk.step F.kept (fun e => hg.2.1 e.symm) (fun e => hg.2.2.1 e.symm) (fun k hk e => by omega), by simpa using h.size, below_setRow h.below hg.2.2.2.1 _⟩
set_option maxHeartbeats 4000000 in
set_option maxRecDepth 100000 in
theorem empty_geo (w : World) : Calls Try.prog 4 #[.agg geoC] w fun e w' => ∃ gd gs, e = .returned (.tuple #[.pointer (some ⟨gd, 0, none⟩), .agg layC, .bool true]) ∧ (∃ B, B ≤ w'.heap.size ∧ DiskAt w' B gd gs dk0) ∧ w.heap.size ≤ gd ∧ w.heap.size ≤ gs ∧ Below w.heap.size w w' := by
  go_enter Try.func4, Try.ntmps4
  unfold geoC
  go_wp2_with fail
  obtain ⟨w1, hw1⟩ : ∃ w1, (w.alloc (Obj.cells #[.int .i64 30, .int .i64 12, .int .i64 6, .int .i64 8] 25)).alloc (Obj.cells lay0 28) = w1 := ⟨_, rfl⟩
  have hB1 : Below w.heap.size w w1 := by rw [← hw1]; exact below_alloc (below_alloc (Below.refl _ _) _) _
  have hb3 : w1.heap[w.heap.size + 1]? = some (.cells lay0 28 (0, 0)) := by
    rw [← hw1]
    have := blk_new (w.alloc (Obj.cells #[.int .i64 30, .int .i64 12, .int .i64 6, .int .i64 8] 25)) (Obj.cells lay0 28)
    simpa using this
  unfold lay0 at hw1
  rw [hw1]
  clear hw1
  have HB1 := Lib.hid hB1
  have Hb3 := Lib.hid hb3
  clear hB1 hb3
  refine (plan_geo w1).mono ?_
  rintro e w2 ⟨rfl, hB2⟩
  have HB2 := Lib.hid (below_step HB1.out hB2)
  have Hb3' := Lib.hid (blk_below Hb3.out hB2)
  clear hB2 Hb3 HB1
  go_wp2_with fail
  obtain ⟨w3, hw3⟩ : ∃ w3, w2.alloc (Obj.cells layC 28) = w3 := ⟨_, rfl⟩
  have hb5 : w3.heap[w2.heap.size]? = some (.cells layC 28 (0, 0)) := by rw [← hw3]; exact blk_new _ _
  have hB3 : Below w.heap.size w w3 := by rw [← hw3]; exact below_alloc HB2.out _
  have hb3 : w3.heap[w.heap.size + 1]? = some (.cells lay0 28 (0, 0)) := by rw [← hw3]; exact blk_alloc Hb3'.out _
  have hne : w.heap.size + 1 < w2.heap.size := blk_lt Hb3'.out
  have hsz : w.heap.size ≤ w3.heap.size := hB3.size
  unfold layC at hw3
  rw [hw3]
  obtain ⟨g5, hg5⟩ : ∃ g5, w2.heap.size = g5 := ⟨_, rfl⟩
  rw [hg5] at hb5 hne ⊢
  clear hw3 Hb3' HB2 hg5
  refine (disk_new w3).mono ?_
  rintro e w5 ⟨rfl, hD, hsz5, hB5⟩
  obtain ⟨n3, hn3⟩ : ∃ n3, w3.heap.size = n3 := ⟨_, rfl⟩
  have hE : EmpS w (w.heap.size + 1) g5 (n3 + 2) (n3 + 1) n3 w5 := ⟨blk_below hb5 hB5, ⟨lay0, blk_below hb3 hB5, rfl⟩, by rw [← hn3]; exact hD, by rw [← hn3, hsz5]; exact Nat.le_refl _, below_step hB3 hB5⟩
  have hl5 := blk_lt hb5
  have hl3 := blk_lt hb3
  rw [hn3] at hl5 hl3 hsz ⊢
  have Hg := Lib.hid (show w.heap.size + 1 ≠ g5 ∧ w.heap.size + 1 ≠ n3 + 1 ∧ w.heap.size + 1 ≠ n3 ∧ w.heap.size ≤ w.heap.size + 1 ∧ w.heap.size + 1 < n3 + 2 by omega)
  have HE := Lib.hid hE
  have Hsz := Lib.hid hsz
  clear hb5 hb3 hB3 hB5 hD hsz5 hsz hl5 hl3 hne hn3 hE
  go_wp2_with fail
  refine start_ (n := 20) (S := (EmpS w (w.heap.size + 1) g5 (n3 + 2) (n3 + 1) n3)) (ds := []) #[false, false, false, false, false, false, false, false, false, false, false, false, false, false, false, false, false, false, false, false] (by kernel_rfl) rfl rfl (HE.out.drew) (fun hHeld => ?_)
  refine pure_ (i := 0) (N := some 20) (v := ?_) (a' := ?_) #[true, false, false, false, false, false, false, false, false, false, false, false, false, false, false, false, false, false, false, false] rfl rfl (by kernel_rfl) (fun _ _ _ h => h) (Or.inl ⟨by rfl, ?_⟩) ?_ ?_
  rotate_left
  · intro w'
    go_simp
    with_reducible rfl
  rotate_left
  · simp only [Act.put, List.setIfInBounds_toArray, List.set_cons_zero, List.set_cons_succ, i64_w, i32_w]
    rfl
  refine take_ (i := 1) (N := some 21) (v := .agg layC) (a' := ?_) #[true, true, false, false, false, false, false, false, false, false, false, false, false, false, false, false, false, false, false, false] rfl rfl (by kernel_rfl) (fun _ _ _ h => h) (yieldsIf_load_any (by rfl) 28 (.tmp 5) rfl ⟨g5, 0, none⟩ rfl layC.toList _ (fun w' hS j v hj => by rw [Addr.add_mid, Nat.zero_add, blk_cell hS.at5]; simpa using hj) Try.underlying28 rfl sz_layout) hHeld ?_ ?_
  rotate_left
  · simp only [Act.put, List.setIfInBounds_toArray, List.set_cons_zero, List.set_cons_succ, i64_w, i32_w]
    rfl
  refine pure_ (i := 2) (N := some 22) (v := ?_) (a' := ?_) #[true, true, true, false, false, false, false, false, false, false, false, false, false, false, false, false, false, false, false, false] rfl rfl (by kernel_rfl) (fun _ _ _ h => h) (Or.inl ⟨by rfl, ?_⟩) ?_ ?_
  rotate_left
  · intro w'
    go_simp
    with_reducible rfl
  rotate_left
  · simp only [Act.put, List.setIfInBounds_toArray, List.set_cons_zero, List.set_cons_succ, i64_w, i32_w]
    rfl
  refine pure_ (i := 3) (N := some 23) (v := ?_) (a' := ?_) #[true, true, true, true, false, false, false, false, false, false, false, false, false, false, false, false, false, false, false, false] rfl rfl (by kernel_rfl) (fun _ _ _ h => h) (Or.inl ⟨by rfl, ?_⟩) ?_ ?_
  rotate_left
  · intro w'
    go_simp
    with_reducible rfl
  rotate_left
  · simp only [Act.put, List.setIfInBounds_toArray, List.set_cons_zero, List.set_cons_succ, i64_w, i32_w]
    rfl
  refine pure_ (i := 4) (N := some 24) (v := ?_) (a' := ?_) #[true, true, true, true, true, false, false, false, false, false, false, false, false, false, false, false, false, false, false, false] rfl rfl (by kernel_rfl) (fun _ _ _ h => h) (Or.inl ⟨by rfl, ?_⟩) ?_ ?_
  rotate_left
  · intro w'
    go_simp
    with_reducible rfl
  rotate_left
  · simp only [Act.put, List.setIfInBounds_toArray, List.set_cons_zero, List.set_cons_succ, i64_w, i32_w]
    rfl
  refine pure_ (i := 5) (N := some 25) (v := ?_) (a' := ?_) #[true, true, true, true, true, true, false, false, false, false, false, false, false, false, false, false, false, false, false, false] rfl rfl (by kernel_rfl) (fun _ _ _ h => h) (Or.inl ⟨by rfl, ?_⟩) ?_ ?_
  rotate_left
  · intro w'
    go_simp
    with_reducible rfl
  rotate_left
  · simp only [Act.put, List.setIfInBounds_toArray, List.set_cons_zero, List.set_cons_succ, i64_w, i32_w]
    rfl
  refine pure_ (i := 6) (N := some 26) (v := ?_) (a' := ?_) #[true, true, true, true, true, true, true, false, false, false, false, false, false, false, false, false, false, false, false, false] rfl rfl (by kernel_rfl) (fun _ _ _ h => h) (Or.inl ⟨by rfl, ?_⟩) ?_ ?_
  rotate_left
  · intro w'
    go_simp
    with_reducible rfl
  rotate_left
  · simp only [Act.put, List.setIfInBounds_toArray, List.set_cons_zero, List.set_cons_succ, i64_w, i32_w]
    rfl
  refine pure_ (i := 7) (N := some 27) (v := ?_) (a' := ?_) #[true, true, true, true, true, true, true, true, false, false, false, false, false, false, false, false, false, false, false, false] rfl rfl (by kernel_rfl) (fun _ _ _ h => h) (Or.inl ⟨by rfl, ?_⟩) ?_ ?_
  rotate_left
  · intro w'
    go_simp
    with_reducible rfl
  rotate_left
  · simp only [Act.put, List.setIfInBounds_toArray, List.set_cons_zero, List.set_cons_succ, i64_w, i32_w]
    rfl
  refine pure_ (i := 8) (N := some 28) (v := ?_) (a' := ?_) #[true, true, true, true, true, true, true, true, true, false, false, false, false, false, false, false, false, false, false, false] rfl rfl (by kernel_rfl) (fun _ _ _ h => h) (Or.inl ⟨by rfl, ?_⟩) ?_ ?_
  rotate_left
  · intro w'
    go_simp
    with_reducible rfl
  rotate_left
  · simp only [Act.put, List.setIfInBounds_toArray, List.set_cons_zero, List.set_cons_succ, i64_w, i32_w]
    rfl
  refine pure_ (i := 9) (N := some 29) (v := ?_) (a' := ?_) #[true, true, true, true, true, true, true, true, true, true, false, false, false, false, false, false, false, false, false, false] rfl rfl (by kernel_rfl) (fun _ _ _ h => h) (Or.inl ⟨by rfl, ?_⟩) ?_ ?_
  rotate_left
  · intro w'
    go_simp
    with_reducible rfl
  rotate_left
  · simp only [Act.put, List.setIfInBounds_toArray, List.set_cons_zero, List.set_cons_succ, i64_w, i32_w]
    rfl
  refine pure_ (i := 10) (N := some 30) (v := ?_) (a' := ?_) #[true, true, true, true, true, true, true, true, true, true, true, false, false, false, false, false, false, false, false, false] rfl rfl (by kernel_rfl) (fun _ _ _ h => h) (Or.inl ⟨by rfl, ?_⟩) ?_ ?_
  rotate_left
  · intro w'
    go_simp
    with_reducible rfl
  rotate_left
  · simp only [Act.put, List.setIfInBounds_toArray, List.set_cons_zero, List.set_cons_succ, i64_w, i32_w]
    rfl
  refine pure_ (i := 11) (N := some 31) (v := ?_) (a' := ?_) #[true, true, true, true, true, true, true, true, true, true, true, true, false, false, false, false, false, false, false, false] rfl rfl (by kernel_rfl) (fun _ _ _ h => h) (Or.inl ⟨by rfl, ?_⟩) ?_ ?_
  rotate_left
  · intro w'
    go_simp
    with_reducible rfl
  rotate_left
  · simp only [Act.put, List.setIfInBounds_toArray, List.set_cons_zero, List.set_cons_succ, i64_w, i32_w]
    rfl
  refine pure_ (i := 12) (N := some 32) (v := ?_) (a' := ?_) #[true, true, true, true, true, true, true, true, true, true, true, true, true, false, false, false, false, false, false, false] rfl rfl (by kernel_rfl) (fun _ _ _ h => h) (Or.inl ⟨by rfl, ?_⟩) ?_ ?_
  rotate_left
  · intro w'
    go_simp
    with_reducible rfl
  rotate_left
  · simp only [Act.put, List.setIfInBounds_toArray, List.set_cons_zero, List.set_cons_succ, i64_w, i32_w]
    rfl
  refine pure_ (i := 13) (N := some 33) (v := ?_) (a' := ?_) #[true, true, true, true, true, true, true, true, true, true, true, true, true, true, false, false, false, false, false, false] rfl rfl (by kernel_rfl) (fun _ _ _ h => h) (Or.inl ⟨by rfl, ?_⟩) ?_ ?_
  rotate_left
  · intro w'
    go_simp
    with_reducible rfl
  rotate_left
  · simp only [Act.put, List.setIfInBounds_toArray, List.set_cons_zero, List.set_cons_succ, i64_w, i32_w]
    rfl
  refine take_ (i := 14) (N := some 34) (v := ?_) (a' := ?_) #[true, true, true, true, true, true, true, true, true, true, true, true, true, true, true, false, false, false, false, false] rfl rfl (by kernel_rfl) (fun _ _ _ h => h) (Or.inl ⟨by rfl, ?_⟩) hHeld ?_ ?_
  rotate_left
  · rintro w' hS
    have y1 : w'.cell? ⟨g5, 6, none⟩ = some (.int .i64 88) := blk_cell hS.at5 6
    go_simp
    with_reducible rfl
  rotate_left
  · simp only [Act.put, List.setIfInBounds_toArray, List.set_cons_zero, List.set_cons_succ, i64_w, i32_w]
    rfl
  refine pure_ (i := 15) (N := some 35) (v := ?_) (a' := ?_) #[true, true, true, true, true, true, true, true, true, true, true, true, true, true, true, true, false, false, false, false] rfl rfl (by kernel_rfl) (fun _ _ _ h => h) (Or.inl ⟨by rfl, ?_⟩) ?_ ?_
  rotate_left
  · intro w'
    go_simp
    with_reducible rfl
  rotate_left
  · simp only [Act.put, List.setIfInBounds_toArray, List.set_cons_zero, List.set_cons_succ, i64_w, i32_w]
    rfl
  refine pure_ (i := 16) (N := some 36) (v := ?_) (a' := ?_) #[true, true, true, true, true, true, true, true, true, true, true, true, true, true, true, true, true, false, false, false] rfl rfl (by kernel_rfl) (fun _ _ _ h => h) (Or.inl ⟨by rfl, ?_⟩) ?_ ?_
  rotate_left
  · intro w'
    go_simp
    with_reducible rfl
  rotate_left
  · simp only [Act.put, List.setIfInBounds_toArray, List.set_cons_zero, List.set_cons_succ, i64_w, i32_w]
    rfl
  refine pure_ (i := 17) (N := some 2) (v := ?_) (a' := ?_) #[true, true, true, true, true, true, true, true, true, true, true, true, true, true, true, true, true, true, false, false] rfl rfl (by kernel_rfl) (fun _ _ _ h => h) (Or.inl ⟨by rfl, ?_⟩) ?_ ?_
  rotate_left
  · intro w'
    go_simp
    with_reducible rfl
  rotate_left
  · simp only [Act.put, List.setIfInBounds_toArray, List.set_cons_zero, List.set_cons_succ, i64_w, i32_w]
    rfl
  refine one_ (i := 18) (N := none) #[true, true, true, true, true, true, true, true, true, true, true, true, true, true, true, true, true, true, true, false] rfl rfl (by kernel_rfl) (by decide) (fun K hK => ?_)
  obtain ⟨old3, hat3, hs3⟩ := hHeld.at3
  refine skip_ (by rfl) rfl (run_exec_store rfl rfl rfl (store_row (ty := 28) (cells := layC) hat3 (by rw [sz_layout]; rfl) hs3 (by simp [layC, Value.oneCell']))) ?_
  refine hK.out _ _ (hHeld.row Hg.out) (fun hHeld => ?_)
  clear hK K
  refine pure_ (i := 19) (N := some 4) (v := ?_) (a' := ?_) #[true, true, true, true, true, true, true, true, true, true, true, true, true, true, true, true, true, true, true, true] rfl rfl (by kernel_rfl) (fun _ _ _ h => h) (Or.inl ⟨by rfl, ?_⟩) ?_ ?_
  rotate_left
  · intro w'
    go_simp
    with_reducible rfl
  rotate_left
  · simp only [Act.put, List.setIfInBounds_toArray, List.set_cons_zero, List.set_cons_succ, i64_w, i32_w]
    rfl
  refine done_ (by kernel_rfl) ?_
  go_wp2_with fail
  refine bodyPost_ret (results_tct rfl _ _ (w.heap.size + 1) 28 layC (0, 0) _ rfl ?_ Try.underlying28 rfl sz_layout) rfl ?_
  · exact setRow_heap _ _ _ _ _ _ hat3
  · exact ⟨n3 + 1, n3, rfl, ⟨n3 + 2, hHeld.size, hHeld.disk⟩, by have := Hsz.out; omega, Hsz.out, hHeld.below⟩
end Go.Proofs.Ytpbijdalfeaheaa.Tf

/- intern: rows that are not needed. -/
namespace Go.Proofs.Ytpbijdalfeaheaa.Tf
open Go.RowKit Go.Proofs.YtpbijdalfeaheaaW.PrintWords Go.Proofs.YtpbijdalfeaheaaW.PrintLast Go.Proofs.YtpbijdalfeaheaaW.PrintMore
set_option linter.unusedVariables false
set_option linter.unusedSimpArgs false
theorem sz_row : (Try.prog.info? 122).map (·.size) = some 2 := by kernel_rfl
/-- Sixteen rows that are not needed. -/
def rows0 : List (Int × Int) := List.replicate 16 (0, 0)
theorem rows0_at (k : Nat) (h : k < rows0.length) : rows0[k] = (0, 0) := List.getElem_replicate _
theorem rows0_len : rows0.length = 16 := List.length_replicate
/-- An element's cells. -/
theorem flat_at {α : Type} {n : Nat} {enc : α → List Value} {h1 : ∀ x, ∀ u ∈ enc x, u.oneCell' = true} {w : World} {ad : Addr} {m : Nat} {xs : List α} (h : (flat n enc h1).C w (some ad) m xs) (k : Nat) (hk : k < xs.length) :
    ∀ j v, (enc xs[k])[j]? = some v → w.cell? ((ad.add (k * n)).add j) = some v := by
  obtain ⟨hl, hm, hc⟩ := h
  obtain ⟨ad', e, hcell⟩ := hc (by omega)
  injection e with e
  subst e
  obtain ⟨cs, hcl, hK, hcc⟩ := hcell k _ (List.getElem?_eq_getElem hk)
  intro j v hj
  rw [add_add]
  rw [hK.1] at hcc
  exact hcc j v hj
set_option maxHeartbeats 4000000 in
set_option maxRecDepth 100000 in
theorem internright0 (ad : Addr) (c0 : Nat) (w : World) (h : Kd.C RK w (some ad) 16 rows0) : Calls Try.prog 47 #[.slice (some ad) 16 c0] w fun e w' => e = .returned (.bool true) ∧ Below w.heap.size w w' := by
  have HC := Lib.hid h
  clear h
  have hmm := @run_makeMap Try.prog
  go_enter Try.func47, Try.ntmps47
  go_wp2_with fail
  clear hmm
  go_loopg [5, 12] 16 (fun q _ i wr => ∃ k, k + q = 16 ∧ i = .int .i64 (k : Int) ∧ Hid (Below w.heap.size w wr))
  case atStart => exact ⟨0, rfl, rfl, Lib.hid (below_alloc (Below.refl _ _) _)⟩
  case round =>
    obtain ⟨k, hq, rfl, hB⟩ := hrel
    cases gk with
    | zero =>
      obtain rfl : k = 16 := by omega
      go_wp2_with fail
      go_ret
      exact ⟨rfl, hB.out⟩
    | succ q =>
      have d1 : decide ((k : Int) < 16) = true := decide_eq_true (by omega)
      have q0 : 0 ≤ (k : Int) := by omega
      have q1 : (k : Int) < 16 := by omega
      have hat := flat_at (Kd.C_below HC.out hB.out) k (by simp [rows0]; omega)
      rw [rows0_at] at hat
      have hload := Lib.hid (load_any wr (ad.add (k * 2)) 122 [.int .u16 0, .int .i64 0] _ hat Try.underlying122 rfl (by rw [sz_row]; rfl))
      clear hat
      go_wp2_with (first | ((with_reducible refine gate_load 122 (.tmp 14) rfl ?_); refine wpList_load_eq rfl _ _ rfl _ _ rfl hload.out ?_))
      go_roundg q
      case measure => omega
      case rel => exact ⟨k + 1, by omega, by go_num, Lib.hid (below_alloc hB.out _)⟩
theorem lay0s : layL 2 (List.replicate 32 (0 : Int)) = List.replicate 64 0 := by decide
set_option maxHeartbeats 4000000 in
set_option maxRecDepth 100000 in
theorem internlay0 (ad : Addr) (c0 : Nat) (w : World) (h : Kd.C RK w (some ad) 16 rows0) : Calls Try.prog 25 #[.slice (some ad) 16 c0] w fun e w' => ∃ v, e = .returned (.tuple #[v, .int .i64 0]) ∧ Kd.R (Kd.int .u8) 5 w' w.heap.size (fun _ => True) v (List.replicate 64 0) ∧ Below w.heap.size w w' := by
  have HC := Lib.hid h
  clear h
  go_enter Try.func25, Try.ntmps25
  go_wp2_with fail
  refine (internright0 ad c0 w HC.out).mono ?_
  rintro e w1 ⟨rfl, hB1⟩
  have HB1 := Lib.hid hB1
  clear hB1
  go_wp2_with fail
  go_loopg [4, 6, 12] 16 (fun q v4 _ i wr => ∃ k, k + q = 16 ∧ i = .int .i64 (k : Int) ∧ Hid (Kd.R (Kd.int .u64) 23 wr w.heap.size (fun _ => True) v4 (List.replicate (2 * k) 0)) ∧ Hid (Below w.heap.size w wr))
  case atStart => exact ⟨0, rfl, rfl, Lib.hid (Kd.R_nil _ _ _ _ _), HB1⟩
  case round =>
    obtain ⟨k, hq, rfl, hR, hB⟩ := hrel
    cases gk with
    | zero =>
      obtain rfl : k = 16 := by omega
      obtain ⟨A8, c8, rfl, hc8, hC8⟩ := Kd.R_reads hR.out
      rw [List.length_replicate] at hc8 hC8
      have HC8 := Lib.hid hC8
      have hl32 : (List.replicate (2 * 16) (0 : Int)).length = 32 := by simp
      rw [List.length_replicate]
      clear hC8 hc8 hR
      go_wp2_with fail
      refine (layN 2 32 A8 c8 (List.replicate 32 0) wr (by simp) (by omega) (by omega) (by omega) HC8.out (fun n hn => by rw [List.eq_of_mem_replicate hn]; decide)).mono ?_
      rintro e w1 ⟨v1, rfl, hR1, hB1⟩
      rw [lay0s] at hR1
      go_wp2_with fail
      go_ret2
      exact ⟨v1, rfl, Kd.R_lower hR1 hB.out.size, below_step hB.out hB1⟩
    | succ q =>
      have d1 : decide ((k : Int) < 16) = true := decide_eq_true (by omega)
      have q0 : 0 ≤ (k : Int) := by omega
      have q1 : (k : Int) < 16 := by omega
      have hat := flat_at (Kd.C_below HC.out hB.out) k (by rw [rows0_len]; omega)
      rw [rows0_at] at hat
      have hload := Lib.hid (load_any wr (ad.add (k * 2)) 122 [.int .u16 0, .int .i64 0] _ hat Try.underlying122 rfl (by rw [sz_row]; rfl))
      clear hat
      have hB2 : Below w.heap.size w (wr.alloc (Obj.cells #[Value.int IntKind.u16 0, Value.int IntKind.i64 0] 122)) := below_alloc hB.out _
      have hBr : Below wr.heap.size wr (wr.alloc (Obj.cells #[Value.int IntKind.u16 0, Value.int IntKind.i64 0] 122)) := below_alloc (Below.refl _ _) _
      obtain ⟨v4, w4, hap, hR4, hg4⟩ := (plain_int .u64).append ((wr.alloc (Obj.cells #[Value.int IntKind.u16 0, Value.int IntKind.i64 0] 122)).alloc (.cells #[.int .u64 0, .int .u64 0] 23)) w.heap.size 105 105 23 (.int .u64 0) 8 Try.underlying105 info_u64 rfl (by decide) u4 (List.replicate (2 * k) 0) [0, 0] (Kd.R_below hR.out (below_alloc hBr _)) (some ⟨(wr.alloc (Obj.cells #[Value.int IntKind.u16 0, Value.int IntKind.i64 0] 122)).heap.size, 0, none⟩) 2 2 (by decide) (C_of_blk (k := .u64) (xs := [0, 0]) (blk_new _ _) (by simp)) (by rw [List.length_replicate]; omega) (by rw [List.length_replicate]; unfold maxLen; omega) (by have := hB.out.size; simp; omega)
      rw [show List.replicate (2 * k) (0 : Int) ++ [0, 0] = List.replicate (2 * (k + 1)) 0 by rw [show ([0, 0] : List Int) = List.replicate 2 0 from rfl, List.replicate_append_replicate]; rfl] at hR4
      have hB4 := pw_below_grown (below_alloc hB2 (.cells #[.int .u64 0, .int .u64 0] 23)) _ (below_size (below_alloc hB2 _)) hg4 (fun k hk => R_base' hR.out k hk)
      have hsz2 : (wr.alloc (Obj.cells #[Value.int IntKind.u16 0, Value.int IntKind.i64 0] 122)).heap.size = wr.heap.size + 1 := by simp
      rw [hsz2] at hap
      have Hap := Lib.hid hap
      have HR4 := Lib.hid hR4
      have HB4 := Lib.hid hB4
      clear hap hR4 hg4 hB4 hB2 hBr hsz2
      go_wp2_with (first | ((with_reducible refine gate_load 122 (.tmp 14) rfl ?_); refine wpList_load_eq rfl _ _ rfl _ _ rfl hload.out ?_) | ((with_reducible refine gate_builtin (b := .append) (xs := #[.tmp 16, .tmp 23]) rfl ?_); at_builtin; refine wpList_append_eq rfl (.tmp 16) (.tmp 23) 105 rfl _ _ _ rfl rfl Hap.out ?_))
      go_roundg q
      case measure => omega
      case rel => exact ⟨k + 1, by omega, by go_num, HR4, HB4⟩
end Go.Proofs.Ytpbijdalfeaheaa.Tf

/- intern.Take, of zeros. -/
namespace Go.Proofs.Ytpbijdalfeaheaa.Tf
open Go.RowKit Go.Proofs.YtpbijdalfeaheaaW.PrintWords Go.Proofs.YtpbijdalfeaheaaW.PrintLast Go.Proofs.YtpbijdalfeaheaaW.PrintMore
set_option linter.unusedVariables false
set_option linter.unusedSimpArgs false
theorem row_one (W : World) : (Instr.buildSlice 31 1 #[(0, .agg #[.int .u16 0, .int .i64 0])]).run Try.prog W = .ok (.slice (some ⟨W.heap.size, 0, none⟩) 1 1) (W.alloc (.cells #[.int .u16 0, .int .i64 0] 122)) :=
  build_one 31 122 _ 2 16 Try.underlying31 info_row rfl (by decide) (by decide) _ rfl W
set_option maxHeartbeats 4000000 in
set_option maxRecDepth 100000 in
theorem interntake0 (ad : Addr) (c0 : Nat) (w : World) (h : Kd.C (Kd.int .u8) w (some ad) 64 (List.replicate 64 0)) (hc : 64 ≤ c0) : Calls Try.prog 34 #[.slice (some ad) 64 c0] w fun e w' => ∃ v, e = .returned (.tuple #[v, .int .i64 0]) ∧ Kd.R RK 122 w' w.heap.size (fun _ => True) v rows0 ∧ Below w.heap.size w w' := by
  have HC := Lib.hid h
  have Hc := Lib.hid hc
  clear h hc
  go_enter Try.func34, Try.ntmps34
  go_wp2_with fail
  refine (take_any 2 64 (some ad) c0 (List.replicate 32 0) w (by omega) (by omega) (by simp) (by omega) (by rw [lay0s]; exact HC.out) Hc.out (fun n hn => by rw [List.eq_of_mem_replicate hn]; decide)).mono ?_
  rintro e w1 ⟨v1, rfl, hR1, hB1⟩
  obtain ⟨g8, c8, rfl⟩ := R_some hR1 (by simp)
  have hC1 := Kd.F_now (Kd.R_F hR1)
  rw [List.length_replicate] at hC1 ⊢
  have HC1 := Lib.hid hC1
  have HB1 := Lib.hid hB1
  clear hR1 hC1 hB1
  go_wp2_with fail
  go_loopg [6, 7] 16 (fun q v6 i wr => ∃ k, k + q = 16 ∧ i = .int .i64 (2 * (k : Int)) ∧ Hid (Kd.R RK 122 wr w1.heap.size (fun _ => True) v6 (List.replicate k (0, 0))) ∧ Hid (Below w1.heap.size w1 wr))
  case atStart => exact ⟨0, rfl, rfl, Lib.hid (Kd.R_nil _ _ _ _ _), Lib.hid (Below.refl _ _)⟩
  case round =>
    obtain ⟨k, hq, rfl, hR, hB⟩ := hrel
    cases gk with
    | zero =>
      obtain rfl : k = 16 := by omega
      have d1 : decide ((2 * ((16 : Nat) : Int)) < 32) = false := rfl
      obtain ⟨g6, c6, rfl⟩ := R_some hR.out (by simp)
      have hC6 := Kd.F_now (Kd.R_F hR.out)
      rw [List.length_replicate] at hC6
      have HC6 := Lib.hid hC6
      have HR6 := Lib.hid hR.out
      rw [List.length_replicate]
      rw [List.length_replicate] at HR6
      clear hC6 hR
      go_wp2_with fail
      refine (internright0 ⟨g6, 0, none⟩ c6 wr HC6.out).mono ?_
      rintro e w2 ⟨rfl, hB2⟩
      have HB2 := Lib.hid hB2
      clear hB2
      go_wp2_with fail
      go_ret2
      exact ⟨_, rfl, Kd.R_lower (Kd.R_below HR6.out HB2.out) HB1.out.size, below_step (below_step HB1.out hB.out) HB2.out⟩
    | succ q =>
      have d1 : decide ((2 * (k : Int)) < 32) = true := decide_eq_true (by omega)
      have hCr := Kd.C_below HC1.out hB.out
      obtain ⟨ad', e, hc0⟩ := at_int hCr (2 * k) (by simp; omega)
      injection e with e
      subst e
      obtain ⟨ad', e, hc1⟩ := at_int hCr (2 * k + 1) (by simp; omega)
      injection e with e
      subst e
      rw [List.getElem_replicate, Addr.add_mid, Nat.zero_add] at hc0 hc1
      have Hn0 : Hid (∀ w', Below wr.heap.size wr w' → w'.cell? ⟨g8, 2 * k, none⟩ = some (.int .u64 0)) := Lib.hid (fun w' hS => by rw [hS.cell (World.block_lt_of_cell? wr _ hc0)]; exact hc0)
      have Hn1 : Hid (∀ w', Below wr.heap.size wr w' → w'.cell? ⟨g8, 2 * k + 1, none⟩ = some (.int .u64 0)) := Lib.hid (fun w' hS => by rw [hS.cell (World.block_lt_of_cell? wr _ hc1)]; exact hc1)
      have hwsz : w.heap.size ≤ wr.heap.size := Nat.le_trans HB1.out.size hB.out.size
      obtain ⟨v7, w7, hap, hR7, hg7⟩ := (show Plain RK rowC from plain_flat 2 rowC _).append (wr.drew.alloc (.cells #[.int .u16 0, .int .i64 0] 122)) w1.heap.size 31 31 122 _ 16 Try.underlying31 info_row rfl (by decide) u6 (List.replicate k (0, 0)) [(0, 0)] (Kd.R_below hR.out (below_alloc (below_drew (Below.refl _ _)) _)) (some ⟨wr.heap.size, 0, none⟩) 1 1 (by decide) (C_flat1 (enc := rowC) (blk_new wr.drew _) rfl) (by rw [List.length_replicate]; omega) (by rw [List.length_replicate]; unfold maxLen; omega) (by have := hB.out.size; simp; omega)
      rw [show List.replicate k ((0, 0) : Int × Int) ++ [(0, 0)] = List.replicate (k + 1) (0, 0) by rw [List.replicate_succ']] at hR7
      have hB7 : Below w1.heap.size w1 w7 := pw_below_grown (below_alloc (below_step hB.out (below_drew (Below.refl _ _))) _) _ (by have := hB.out.size; simp; omega) hg7 (fun k hk => R_base' hR.out k hk)
      have Hap := Lib.hid hap
      have HR7 := Lib.hid hR7
      have HB7 := Lib.hid hB7
      clear hCr hc0 hc1 hap hR7 hg7 hB7 hwsz
      have s2 : wrap64 (2 * (k : Int) + 1) = 2 * (k : Int) + 1 := by unfold wrap64; omega
      have s5 : IntKind.i64.wrap (2 * (k : Int) + 1) = 2 * (k : Int) + 1 := by rw [i64_w]; exact s2
      have t1 : (2 * (k : Int)).toNat = 2 * k := by omega
      have t2 : (2 * (k : Int) + 1).toNat = 2 * k + 1 := by omega
      have b1 : 0 ≤ 2 * (k : Int) := by omega
      have b2 : 2 * (k : Int) < 32 := by omega
      have b3 : 0 ≤ 2 * (k : Int) + 1 := by omega
      have b4 : 2 * (k : Int) + 1 < 32 := by omega
      go_wp2_with fail
      refine start_ (n := 16) (S := (fun W => Below wr.heap.size wr W)) (ds := [14]) #[false, false, false, false, false, false, false, false, false, false, false, false, false, false, false, false] (by kernel_rfl) rfl rfl (below_drew (Below.refl _ _)) (fun hHeld => ?_)
      refine pure_ (i := 0) (N := some 26) (v := ?_) (a' := ?_) #[true, false, false, false, false, false, false, false, false, false, false, false, false, false, false, false] rfl rfl (by kernel_rfl) (fun _ _ _ h => h) (Or.inl ⟨by rfl, ?_⟩) ?_ ?_
      rotate_left
      · intro w'
        go_simp
        with_reducible rfl
      rotate_left
      · simp only [Act.put, List.setIfInBounds_toArray, List.set_cons_zero, List.set_cons_succ, i64_w, i32_w]
        rfl
      refine pure_ (i := 1) (N := some 27) (v := ?_) (a' := ?_) #[true, true, false, false, false, false, false, false, false, false, false, false, false, false, false, false] rfl rfl (by kernel_rfl) (fun _ _ _ h => h) (Or.inl ⟨by rfl, ?_⟩) ?_ ?_
      rotate_left
      · intro w'
        go_simp
        with_reducible rfl
      rotate_left
      · simp only [Act.put, List.setIfInBounds_toArray, List.set_cons_zero, List.set_cons_succ, i64_w, i32_w]
        rfl
      refine pure_ (i := 2) (N := some 28) (v := ?_) (a' := ?_) #[true, true, true, false, false, false, false, false, false, false, false, false, false, false, false, false] rfl rfl (by kernel_rfl) (fun _ _ _ h => h) (Or.inl ⟨by rfl, ?_⟩) ?_ ?_
      rotate_left
      · intro w'
        go_simp
        with_reducible rfl
      rotate_left
      · simp only [Act.put, List.setIfInBounds_toArray, List.set_cons_zero, List.set_cons_succ, i64_w, i32_w]
        rfl
      refine pure_ (i := 3) (N := some 29) (v := ?_) (a' := ?_) #[true, true, true, true, false, false, false, false, false, false, false, false, false, false, false, false] rfl rfl (by kernel_rfl) (fun _ _ _ h => h) (Or.inl ⟨by rfl, ?_⟩) ?_ ?_
      rotate_left
      · intro w'
        go_simp
        with_reducible rfl
      rotate_left
      · simp only [Act.put, List.setIfInBounds_toArray, List.set_cons_zero, List.set_cons_succ, i64_w, i32_w]
        rfl
      refine take_ (i := 4) (N := some 30) (v := ?_) (a' := ?_) #[true, true, true, true, true, false, false, false, false, false, false, false, false, false, false, false] rfl rfl (by kernel_rfl) (fun _ _ _ h => h) (Or.inl ⟨by rfl, ?_⟩) hHeld ?_ ?_
      rotate_left
      · rintro w' hS
        have y1 := Hn0.out w' hS
        go_simp
        with_reducible rfl
      rotate_left
      · simp only [Act.put, List.setIfInBounds_toArray, List.set_cons_zero, List.set_cons_succ, i64_w, i32_w]
        rfl
      refine pure_ (i := 5) (N := some 31) (v := ?_) (a' := ?_) #[true, true, true, true, true, true, false, false, false, false, false, false, false, false, false, false] rfl rfl (by kernel_rfl) (fun _ _ _ h => h) (Or.inl ⟨by rfl, ?_⟩) ?_ ?_
      rotate_left
      · intro w'
        go_simp
        with_reducible rfl
      rotate_left
      · simp only [Act.put, List.setIfInBounds_toArray, List.set_cons_zero, List.set_cons_succ, i64_w, i32_w]
        rfl
      refine pure_ (i := 6) (N := some 32) (v := ?_) (a' := ?_) #[true, true, true, true, true, true, true, false, false, false, false, false, false, false, false, false] rfl rfl (by kernel_rfl) (fun _ _ _ h => h) (Or.inl ⟨by rfl, ?_⟩) ?_ ?_
      rotate_left
      · intro w'
        go_simp
        with_reducible rfl
      rotate_left
      · simp only [Act.put, List.setIfInBounds_toArray, List.set_cons_zero, List.set_cons_succ, i64_w, i32_w]
        rfl
      refine pure_ (i := 7) (N := some 33) (v := ?_) (a' := ?_) #[true, true, true, true, true, true, true, true, false, false, false, false, false, false, false, false] rfl rfl (by kernel_rfl) (fun _ _ _ h => h) (Or.inl ⟨by rfl, ?_⟩) ?_ ?_
      rotate_left
      · intro w'
        go_simp
        with_reducible rfl
      rotate_left
      · simp only [Act.put, List.setIfInBounds_toArray, List.set_cons_zero, List.set_cons_succ, i64_w, i32_w]
        rfl
      refine pure_ (i := 8) (N := some 34) (v := ?_) (a' := ?_) #[true, true, true, true, true, true, true, true, true, false, false, false, false, false, false, false] rfl rfl (by kernel_rfl) (fun _ _ _ h => h) (Or.inl ⟨by rfl, ?_⟩) ?_ ?_
      rotate_left
      · intro w'
        go_simp
        with_reducible rfl
      rotate_left
      · simp only [Act.put, List.setIfInBounds_toArray, List.set_cons_zero, List.set_cons_succ, i64_w, i32_w]
        rfl
      refine pure_ (i := 9) (N := some 35) (v := ?_) (a' := ?_) #[true, true, true, true, true, true, true, true, true, true, false, false, false, false, false, false] rfl rfl (by kernel_rfl) (fun _ _ _ h => h) (Or.inl ⟨by rfl, ?_⟩) ?_ ?_
      rotate_left
      · intro w'
        go_simp
        with_reducible rfl
      rotate_left
      · simp only [Act.put, List.setIfInBounds_toArray, List.set_cons_zero, List.set_cons_succ, i64_w, i32_w]
        rfl
      refine take_ (i := 10) (N := some 36) (v := ?_) (a' := ?_) #[true, true, true, true, true, true, true, true, true, true, true, false, false, false, false, false] rfl rfl (by kernel_rfl) (fun _ _ _ h => h) (Or.inl ⟨by rfl, ?_⟩) hHeld ?_ ?_
      rotate_left
      · rintro w' hS
        have y1 := Hn1.out w' hS
        go_simp
        with_reducible rfl
      rotate_left
      · simp only [Act.put, List.setIfInBounds_toArray, List.set_cons_zero, List.set_cons_succ, i64_w, i32_w]
        rfl
      refine pure_ (i := 11) (N := some 37) (v := ?_) (a' := ?_) #[true, true, true, true, true, true, true, true, true, true, true, true, false, false, false, false] rfl rfl (by kernel_rfl) (fun _ _ _ h => h) (Or.inl ⟨by rfl, ?_⟩) ?_ ?_
      rotate_left
      · intro w'
        go_simp
        with_reducible rfl
      rotate_left
      · simp only [Act.put, List.setIfInBounds_toArray, List.set_cons_zero, List.set_cons_succ, i64_w, i32_w]
        rfl
      refine pure_ (i := 12) (N := some 38) (v := .agg #[.int .u16 0, .int .i64 0]) (a' := ?_) #[true, true, true, true, true, true, true, true, true, true, true, true, true, false, false, false] rfl rfl (by kernel_rfl) (fun _ _ _ h => h) (yields_build (by rfl) 122 #[(0, .tmp 31), (1, .tmp 37)] rfl _ #[.int .u16 0, .int .i64 0] (by simp only [List.map_toArray, List.map_cons, List.map_nil]; rfl) (by kernel_rfl)) ?_ ?_
      rotate_left
      · simp only [Act.put, List.setIfInBounds_toArray, List.set_cons_zero, List.set_cons_succ, i64_w, i32_w]
        rfl
      refine one_ (i := 13) (N := some 39) #[true, true, true, true, true, true, true, true, true, true, true, true, true, true, false, false] rfl rfl (by kernel_rfl) (by decide) (fun K hK => ?_)
      refine value_ (by rfl) rfl (run_exec_buildSlice1 rfl rfl (row_one wr.drew)) ?_
      refine hK.out _ _ (below_alloc hHeld _) (fun hHeld => ?_)
      clear hK K
      refine norm_ (a' := ?_) ?_ ?_
      rotate_left
      · show Act.put _ (some 39) _ = _
        simp only [Act.put, List.setIfInBounds_toArray, List.set_cons_zero, List.set_cons_succ, i64_w, i32_w]
        rfl
      refine last_ (i := 14) (N := some 40) #[true, true, true, true, true, true, true, true, true, true, true, true, true, true, true, false] rfl rfl (by kernel_rfl) (by decide) (fun K hK => ?_)
      refine value_ (by rfl) rfl (run_exec_append rfl rfl rfl Hap.out) ?_
      refine hK.out _ _ ?_
      clear hK K
      refine norm_ (a' := ?_) ?_ ?_
      rotate_left
      · show Act.put _ (some 40) _ = _
        simp only [Act.put, List.setIfInBounds_toArray, List.set_cons_zero, List.set_cons_succ, i64_w, i32_w]
        rfl
      refine pure_ (i := 15) (N := some 6) (v := ?_) (a' := ?_) #[true, true, true, true, true, true, true, true, true, true, true, true, true, true, true, true] rfl rfl (by kernel_rfl) (fun _ _ _ h => h) (Or.inl ⟨by rfl, ?_⟩) ?_ ?_
      rotate_left
      · intro w'
        go_simp
        with_reducible rfl
      rotate_left
      · simp only [Act.put, List.setIfInBounds_toArray, List.set_cons_zero, List.set_cons_succ, i64_w, i32_w]
        rfl
      refine done_ (by kernel_rfl) ?_
      go_wp2_with fail
      go_roundg q
      case measure => omega
      case rel => exact ⟨k + 1, by omega, by go_num, HR7, HB7⟩
end Go.Proofs.Ytpbijdalfeaheaa.Tf
