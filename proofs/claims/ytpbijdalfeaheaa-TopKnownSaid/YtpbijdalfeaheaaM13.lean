/- Walks and plain laws on which the claim stands, several texts joined. -/
import Derived.Test.YtpbijdalfeaheaaM10

/- meta.New. -/
namespace Go.Proofs.Ytpbijdalfeaheaa.Tf
open Go.RowKit Go.Proofs.YtpbijdalfeaheaaW.PrintWords Go.Proofs.YtpbijdalfeaheaaW.PrintLast Go.Proofs.YtpbijdalfeaheaaW.PrintMore
set_option linter.unusedVariables false
set_option linter.unusedSimpArgs false
/-- Nothing is known. -/
def mt0 : Mt := { own := List.replicate 6 0, used := List.replicate 64 0, ino := List.replicate 12 (0, 0) }
theorem mt0_ok : MtOk mt0 := by
  refine ⟨by simp [mt0], fun o ho => ?_, ⟨by simp [mt0], fun x hx => ?_, fun j _ _ => ?_⟩, by simp [mt0], fun x hx => ?_⟩
  · rw [List.eq_of_mem_replicate ho]; omega
  · rw [List.eq_of_mem_replicate hx]; omega
  · have h : ∀ (n j : Nat), (List.replicate n (0 : Int)).getD j 0 = 0 := by
      intro n j
      rw [List.getD_eq_getElem?_getD, List.getElem?_replicate]
      split <;> rfl
    exact h 64 j
  · rw [List.eq_of_mem_replicate hx]; exact .inl ⟨rfl, rfl⟩
theorem made16 (w : World) : (Instr.makeSlice 31 (.int .i64 16) (.int .i64 16)).run Try.prog w = .ok (.slice (some ⟨w.heap.size, 0, none⟩) 16 16) (w.alloc (.cells (rows0.flatMap rowC).toArray 122)) := by
  have h := made_rows 31 122 (.agg #[.int .u16 0, .int .i64 0]) 2 16 Try.underlying31 info_row rfl (by omega) 16 (by omega) (by omega) w
  rw [show (rows0.flatMap rowC) = (List.replicate 16 (Value.agg #[.int .u16 0, .int .i64 0]).cells.toList).flatten by unfold rows0; rw [List.flatMap_def, List.map_replicate]; congr 1]
  exact h
theorem made12 (w : World) : (Instr.makeSlice 34 (.int .i64 12) (.int .i64 12)).run Try.prog w = .ok (.slice (some ⟨w.heap.size, 0, none⟩) 12 12) (w.alloc (.cells (mt0.ino.flatMap inoC).toArray 83)) := by
  have h := made_rows 34 83 (.agg inoZ) 14 104 Try.underlying34 info_inode rfl (by omega) 12 (by omega) (by omega) w
  rw [show (mt0.ino.flatMap inoC) = (List.replicate 12 (Value.agg inoZ).cells.toList).flatten by unfold mt0; rw [List.flatMap_def, List.map_replicate]; congr 1]
  exact h
theorem made6 (w : World) : (Instr.makeSlice 32 (.int .i64 6) (.int .i64 6)).run Try.prog w = .ok (.slice (some ⟨w.heap.size, 0, none⟩) 6 6) (w.alloc (.cells (nums .i64 mt0.own).toArray 3)) := by
  have h := made_rows 32 3 (.int .i64 0) 1 8 Try.underlying32 info_int rfl (by omega) 6 (by omega) (by omega) w
  rw [show (nums .i64 mt0.own) = (List.replicate 6 (Value.int .i64 0).cells.toList).flatten by rfl]
  exact h
theorem al_old (W : World) (o : Obj) (k : Nat) (hk : k < W.heap.size) : (W.alloc o).heap[k]? = W.heap[k]? := (below_alloc (Below.refl W.heap.size W) o).block k hk
theorem al_size (W : World) (o : Obj) : (W.alloc o).heap.size = W.heap.size + 1 := by simp
theorem run_exec_makeSlice {o : Oper} {a : Act} {W W1 : World} {t : TypeId} {x y : Operand} {u u' v : Value} (ho : o.op = .makeSlice t x y) (hx : a.eval x = u) (hy : a.eval y = u')
    (hrun : (Instr.makeSlice t u u').run Try.prog W = .ok v W1) : (execOp a.eval o).run Try.prog W = .ok (.value v) W1 := by
  unfold execOp
  simp only [ho, Sem.run_bind, Sem.run_pure, Result.andThen_ok, hx, hy, hrun]
theorem new_post {w w2 W : World} {b0 b1 b2 b3 : Nat} {k0 k1 k2 k3 : Array Value} (H : Boxed w #[.slice none 0 0, .slice none 0 0, .slice none 0 0, .slice none 0 0] w2) (E : (rows0.flatMap rowC).toArray = k0 ∧ (nums .i64 mt0.own).toArray = k1 ∧ madeCells #[.int .u8 0] 64 = k2 ∧ (mt0.ino.flatMap inoC).toArray = k3)
    (h0 : W.heap[b0]? = some (.cells k0 122 (0, 0))) (h1 : W.heap[b1]? = some (.cells k1 3 (0, 0))) (h2 : W.heap[b2]? = some (.cells k2 5 (0, 0))) (h3 : W.heap[b3]? = some (.cells k3 83 (0, 0)))
    (l0 : w2.heap.size ≤ b0) (l1 : w2.heap.size ≤ b1) (l2 : w2.heap.size ≤ b2) (l3 : w2.heap.size ≤ b3) (hb : Below w2.heap.size w2 W) (cells : Array Value) :
    ∃ g0 c0 g1 c1 g2 c2 g3 c3, Ending.returned (.tuple #[.agg #[.slice (some ⟨b0, 0, none⟩) 16 16, .slice (some ⟨b1, 0, none⟩) 6 6, .slice (some ⟨b2, 0, none⟩) 64 64, .slice (some ⟨b3, 0, none⟩) 12 12], .int .i64 0]) = .returned (.tuple #[.agg (metaC ⟨g0, 0, none⟩ c0 ⟨g1, 0, none⟩ c1 ⟨g2, 0, none⟩ c2 ⟨g3, 0, none⟩ c3), .int .i64 0]) ∧ MetaB (W.setRow (w.heap.size + 1) cells) w.heap.size g0 c0 g1 c1 g2 c2 g3 c3 mt0 ∧ Below w.heap.size w (W.setRow (w.heap.size + 1) cells) := by
  obtain ⟨rfl, rfl, rfl, rfl⟩ := E
  have hl : w.heap.size + 1 < w2.heap.size := blk_lt H.met
  have e1 : ∀ l : List Int, nums .i64 l = l.flatMap i64C := fun l => by
    induction l with
    | nil => rfl
    | cons x l ih => rw [List.flatMap_cons, ← ih]; rfl
  have e2 : madeCells #[.int .u8 0] 64 = (mt0.used.flatMap u8C).toArray := by kernel_rfl
  have e : ∀ k, w2.heap.size ≤ k → (W.setRow (w.heap.size + 1) cells).heap[k]? = W.heap[k]? := fun k hk => setRow_other W _ k cells (by omega)
  exact ⟨b0, 16, b1, 6, b2, 64, b3, 12, rfl, ⟨by decide, ⟨by omega, by omega, by omega, by omega⟩, RowB.whole ((e _ l0).trans h0), RowB.whole (by rw [← e1]; exact (e _ l1).trans h1), RowB.whole (by rw [← e2]; exact (e _ l2).trans h2), RowB.whole ((e _ l3).trans h3)⟩, below_setRow (below_step H.below hb) (by omega) _⟩
set_option maxHeartbeats 16000000 in
set_option maxRecDepth 100000 in
theorem metanew_any (w : World) : Calls Try.prog 5 #[.agg geoC] w fun e w' => ∃ g0 c0 g1 c1 g2 c2 g3 c3, e = .returned (.tuple #[.agg (metaC ⟨g0, 0, none⟩ c0 ⟨g1, 0, none⟩ c1 ⟨g2, 0, none⟩ c2 ⟨g3, 0, none⟩ c3), .int .i64 0]) ∧ MetaB w' w.heap.size g0 c0 g1 c1 g2 c2 g3 c3 mt0 ∧ Below w.heap.size w w' := by
  unfold geoC
  go_enter Try.func5, Try.ntmps5
  go_wp2_with fail
  obtain ⟨w1, hw1⟩ : ∃ w1, (w.alloc (Obj.cells #[.int .i64 30, .int .i64 12, .int .i64 6, .int .i64 8] 25)).alloc (Obj.cells #[.slice none 0 0, .slice none 0 0, .slice none 0 0, .slice none 0 0] 36) = w1 := ⟨_, rfl⟩
  have hX1 : Boxed w #[.slice none 0 0, .slice none 0 0, .slice none 0 0, .slice none 0 0] w1 := by rw [← hw1]; exact Boxed.make w _
  rw [hw1]
  clear hw1
  refine (right_geo w1).mono ?_
  rintro e w2 ⟨rfl, hB2⟩
  have HX2 := Lib.hid (hX1.step hB2)
  clear hX1 hB2
  go_wp2_with fail
  have X1 : Hid (∀ w', Below w2.heap.size w2 w' → w'.cell? ⟨w.heap.size, 1, none⟩ = some (.int .i64 12)) := Lib.hid (fun w' hS => blk_cell (blk_below HX2.out.geo hS) 1)
  have X2 : Hid (∀ w', Below w2.heap.size w2 w' → w'.cell? ⟨w.heap.size, 2, none⟩ = some (.int .i64 6)) := Lib.hid (fun w' hS => blk_cell (blk_below HX2.out.geo hS) 2)
  have hm0 := made16
  have hm3 := made12
  have hm1 := made6
  have hm2 := made64
  obtain ⟨k0, e0⟩ : ∃ k, (rows0.flatMap rowC).toArray = k := ⟨_, rfl⟩
  obtain ⟨k3, e3⟩ : ∃ k, (mt0.ino.flatMap inoC).toArray = k := ⟨_, rfl⟩
  obtain ⟨k1, e1⟩ : ∃ k, (nums .i64 mt0.own).toArray = k := ⟨_, rfl⟩
  obtain ⟨k2, e2⟩ : ∃ k, madeCells #[.int .u8 0] 64 = k := ⟨_, rfl⟩
  rw [e0] at hm0
  rw [e1] at hm1
  simp only [e2] at hm2
  rw [e3] at hm3
  have E := Lib.hid (And.intro e0 (And.intro e1 (And.intro e2 e3)))
  clear e0 e1 e2 e3
  refine start_ (n := 11) (S := (fun W => Below w2.heap.size w2 W)) (ds := [9]) #[false, false, false, false, false, false, false, false, false, false, false] (by kernel_rfl) rfl rfl (below_drew (Below.refl _ _)) (fun hHeld => ?_)
  refine pure_ (i := 1) (N := some 9) (v := ?_) (a' := ?_) #[false, true, false, false, false, false, false, false, false, false, false] rfl rfl (by kernel_rfl) (fun _ _ _ h => h) (Or.inl ⟨by rfl, ?_⟩) ?_ ?_
  rotate_left
  · intro w'
    go_simp
    with_reducible rfl
  rotate_left
  · simp only [Act.put, List.setIfInBounds_toArray, List.set_cons_zero, List.set_cons_succ, i64_w, i32_w]
    rfl
  refine take_ (i := 2) (N := some 10) (v := ?_) (a' := ?_) #[false, true, true, false, false, false, false, false, false, false, false] rfl rfl (by kernel_rfl) (fun _ _ _ h => h) (Or.inl ⟨by rfl, ?_⟩) hHeld ?_ ?_
  rotate_left
  · rintro w' hS
    have y := X2.out w' hS
    go_simp
    with_reducible rfl
  rotate_left
  · simp only [Act.put, List.setIfInBounds_toArray, List.set_cons_zero, List.set_cons_succ, i64_w, i32_w]
    rfl
  refine pure_ (i := 5) (N := some 13) (v := ?_) (a' := ?_) #[false, true, true, false, false, true, false, false, false, false, false] rfl rfl (by kernel_rfl) (fun _ _ _ h => h) (Or.inl ⟨by rfl, ?_⟩) ?_ ?_
  rotate_left
  · intro w'
    go_simp
    with_reducible rfl
  rotate_left
  · simp only [Act.put, List.setIfInBounds_toArray, List.set_cons_zero, List.set_cons_succ, i64_w, i32_w]
    rfl
  refine take_ (i := 6) (N := some 14) (v := ?_) (a' := ?_) #[false, true, true, false, false, true, true, false, false, false, false] rfl rfl (by kernel_rfl) (fun _ _ _ h => h) (Or.inl ⟨by rfl, ?_⟩) hHeld ?_ ?_
  rotate_left
  · rintro w' hS
    have y := X1.out w' hS
    go_simp
    with_reducible rfl
  rotate_left
  · simp only [Act.put, List.setIfInBounds_toArray, List.set_cons_zero, List.set_cons_succ, i64_w, i32_w]
    rfl
  refine four_ (i := 0) (j := 3) (k := 4) (m := 7) (Ni := some 8) (Nj := some 11) (Nk := some 12) (Nm := some 15) #[true, true, true, false, false, true, true, false, false, false, false] #[false, true, true, true, false, true, true, false, false, false, false] #[false, true, true, false, true, true, true, false, false, false, false] #[false, true, true, false, false, true, true, true, false, false, false] rfl rfl rfl rfl rfl rfl rfl rfl (by kernel_rfl) (by decide) (by decide) (by decide) (by decide) (fun K hK => ?_) (fun K hK => ?_) (fun K hK => ?_) (fun K hK => ?_)
  · refine value_ (by rfl) rfl (run_exec_makeSlice rfl rfl rfl (hm0 w2.drew)) ?_
    refine hK.out _ _ (below_alloc hHeld _) (fun hHeld => ?_)
    clear hK K
    refine norm_ (a' := ?_) ?_ ?_
    rotate_left
    · show Act.put _ (some 8) _ = _
      simp only [Act.put, List.setIfInBounds_toArray, List.set_cons_zero, List.set_cons_succ, i64_w, i32_w]
      rfl
    obtain ⟨wn0, hw⟩ : ∃ x, w2.drew.alloc (.cells k0 122) = x := ⟨_, rfl⟩
    obtain ⟨b0, hb⟩ : ∃ x, w2.drew.heap.size = x := ⟨_, rfl⟩
    have h0 : wn0.heap[b0]? = some (.cells k0 122 (0, 0)) := by rw [← hw, ← hb]; exact blk_new _ _
    have l0 : w2.heap.size ≤ b0 := by rw [← hb]; exact below_size (by assumption)
    rw [hw] at hHeld ⊢
    rw [hb]
    clear hw hb
    refine three_ (i := 3) (j := 4) (k := 7) (Ni := some 11) (Nj := some 12) (Nk := some 15) #[true, true, true, true, false, true, true, false, false, false, false] #[true, true, true, false, true, true, true, false, false, false, false] #[true, true, true, false, false, true, true, true, false, false, false] rfl rfl rfl rfl rfl rfl (by kernel_rfl) (by decide) (by decide) (by decide) (fun K hK => ?_) (fun K hK => ?_) (fun K hK => ?_)
    · refine value_ (by rfl) rfl (run_exec_makeSlice rfl rfl rfl (hm1 wn0)) ?_
      refine hK.out _ _ (below_alloc hHeld _) (fun hHeld => ?_)
      clear hK K
      refine norm_ (a' := ?_) ?_ ?_
      rotate_left
      · show Act.put _ (some 11) _ = _
        simp only [Act.put, List.setIfInBounds_toArray, List.set_cons_zero, List.set_cons_succ, i64_w, i32_w]
        rfl
      obtain ⟨wn01, hw⟩ : ∃ x, wn0.alloc (.cells k1 3) = x := ⟨_, rfl⟩
      obtain ⟨b1, hb⟩ : ∃ x, wn0.heap.size = x := ⟨_, rfl⟩
      have h1 : wn01.heap[b1]? = some (.cells k1 3 (0, 0)) := by rw [← hw, ← hb]; exact blk_new _ _
      have l1 : w2.heap.size ≤ b1 := by rw [← hb]; exact below_size (by assumption)
      replace h0 : wn01.heap[b0]? = some (.cells k0 122 (0, 0)) := by rw [← hw]; exact blk_alloc h0 _
      rw [hw] at hHeld ⊢
      rw [hb]
      clear hw hb
      refine two_ (i := 4) (j := 7) (Ni := some 12) (Nj := some 15) #[true, true, true, true, true, true, true, false, false, false, false] #[true, true, true, true, false, true, true, true, false, false, false] rfl rfl rfl rfl (by kernel_rfl) (by decide) (by decide) (fun K hK => ?_) (fun K hK => ?_)
      · refine value_ (by rfl) rfl (run_exec_makeSlice rfl rfl rfl (hm2 wn01)) ?_
        refine hK.out _ _ (below_alloc hHeld _) (fun hHeld => ?_)
        clear hK K
        refine norm_ (a' := ?_) ?_ ?_
        rotate_left
        · show Act.put _ (some 12) _ = _
          simp only [Act.put, List.setIfInBounds_toArray, List.set_cons_zero, List.set_cons_succ, i64_w, i32_w]
          rfl
        obtain ⟨wn012, hw⟩ : ∃ x, wn01.alloc (.cells k2 5) = x := ⟨_, rfl⟩
        obtain ⟨b2, hb⟩ : ∃ x, wn01.heap.size = x := ⟨_, rfl⟩
        have h2 : wn012.heap[b2]? = some (.cells k2 5 (0, 0)) := by rw [← hw, ← hb]; exact blk_new _ _
        have l2 : w2.heap.size ≤ b2 := by rw [← hb]; exact below_size (by assumption)
        replace h0 : wn012.heap[b0]? = some (.cells k0 122 (0, 0)) := by rw [← hw]; exact blk_alloc h0 _
        replace h1 : wn012.heap[b1]? = some (.cells k1 3 (0, 0)) := by rw [← hw]; exact blk_alloc h1 _
        rw [hw] at hHeld ⊢
        rw [hb]
        clear hw hb
        refine one_ (i := 7) (N := some 15) #[true, true, true, true, true, true, true, true, false, false, false] rfl rfl (by kernel_rfl) (by decide) (fun K hK => ?_)
        refine value_ (by rfl) rfl (run_exec_makeSlice rfl rfl rfl (hm3 wn012)) ?_
        refine hK.out _ _ (below_alloc hHeld _) (fun hHeld => ?_)
        clear hK K
        refine norm_ (a' := ?_) ?_ ?_
        rotate_left
        · show Act.put _ (some 15) _ = _
          simp only [Act.put, List.setIfInBounds_toArray, List.set_cons_zero, List.set_cons_succ, i64_w, i32_w]
          rfl
        obtain ⟨wn0123, hw⟩ : ∃ x, wn012.alloc (.cells k3 83) = x := ⟨_, rfl⟩
        obtain ⟨b3, hb⟩ : ∃ x, wn012.heap.size = x := ⟨_, rfl⟩
        have h3 : wn0123.heap[b3]? = some (.cells k3 83 (0, 0)) := by rw [← hw, ← hb]; exact blk_new _ _
        have l3 : w2.heap.size ≤ b3 := by rw [← hb]; exact below_size (by assumption)
        replace h0 : wn0123.heap[b0]? = some (.cells k0 122 (0, 0)) := by rw [← hw]; exact blk_alloc h0 _
        replace h1 : wn0123.heap[b1]? = some (.cells k1 3 (0, 0)) := by rw [← hw]; exact blk_alloc h1 _
        replace h2 : wn0123.heap[b2]? = some (.cells k2 5 (0, 0)) := by rw [← hw]; exact blk_alloc h2 _
        rw [hw] at hHeld ⊢
        rw [hb]
        clear hw hb
        refine pure_ (i := 8) (N := some 16) (v := .agg #[.slice (some ⟨b0, 0, none⟩) 16 16, .slice (some ⟨b1, 0, none⟩) 6 6, .slice (some ⟨b2, 0, none⟩) 64 64, .slice (some ⟨b3, 0, none⟩) 12 12]) (a' := ?_) #[true, true, true, true, true, true, true, true, true, false, false] rfl rfl (by kernel_rfl) (fun _ _ _ h => h) (yields_build (by rfl) 36 #[(0, .tmp 8), (1, .tmp 11), (2, .tmp 12), (3, .tmp 15)] rfl _ #[.slice (some ⟨b0, 0, none⟩) 16 16, .slice (some ⟨b1, 0, none⟩) 6 6, .slice (some ⟨b2, 0, none⟩) 64 64, .slice (some ⟨b3, 0, none⟩) 12 12] (by simp only [List.map_toArray, List.map_cons, List.map_nil]; rfl) (by kernel_rfl)) ?_ ?_
        rotate_left
        · simp only [Act.put, List.setIfInBounds_toArray, List.set_cons_zero, List.set_cons_succ, i64_w, i32_w]
          rfl
        refine last_ (i := 9) (N := none) #[true, true, true, true, true, true, true, true, true, true, false] rfl rfl (by kernel_rfl) (by decide) (fun K hK => ?_)
        have hz := blk_below HX2.out.met hHeld
        refine skip_ (by rfl) rfl (run_exec_store rfl rfl rfl (store_row (W := wn0123) (ty := 36) (cells := #[.slice (some ⟨b0, 0, none⟩) 16 16, .slice (some ⟨b1, 0, none⟩) 6 6, .slice (some ⟨b2, 0, none⟩) 64 64, .slice (some ⟨b3, 0, none⟩) 12 12]) hz (by rw [sz_meta]; rfl) rfl (by simp [Value.oneCell']))) ?_
        refine hK.out _ _ ?_
        clear hK K
        refine pure_ (i := 10) (N := some 3) (v := ?_) (a' := ?_) #[true, true, true, true, true, true, true, true, true, true, true] rfl rfl (by kernel_rfl) (fun _ _ _ h => h) (Or.inl ⟨by rfl, ?_⟩) ?_ ?_
        rotate_left
        · intro w'
          go_simp
          with_reducible rfl
        rotate_left
        · simp only [Act.put, List.setIfInBounds_toArray, List.set_cons_zero, List.set_cons_succ, i64_w, i32_w]
          rfl
        refine done_ (by kernel_rfl) ?_
        go_wp2_with fail
        refine bodyPost_ret (results_cell_tmp rfl _ _ (w.heap.size + 1) 36 #[.slice (some ⟨b0, 0, none⟩) 16 16, .slice (some ⟨b1, 0, none⟩) 6 6, .slice (some ⟨b2, 0, none⟩) 64 64, .slice (some ⟨b3, 0, none⟩) 12 12] (0, 0) _ rfl (setRow_heap wn0123 _ _ _ _ _ hz) Try.underlying36 rfl sz_meta) rfl ?_
        exact new_post HX2.out E.out h0 h1 h2 h3 l0 l1 l2 l3 hHeld _
      · refine value_ (by rfl) rfl (run_exec_makeSlice rfl rfl rfl (hm3 wn01)) ?_
        refine hK.out _ _ (below_alloc hHeld _) (fun hHeld => ?_)
        clear hK K
        refine norm_ (a' := ?_) ?_ ?_
        rotate_left
        · show Act.put _ (some 15) _ = _
          simp only [Act.put, List.setIfInBounds_toArray, List.set_cons_zero, List.set_cons_succ, i64_w, i32_w]
          rfl
        obtain ⟨wn013, hw⟩ : ∃ x, wn01.alloc (.cells k3 83) = x := ⟨_, rfl⟩
        obtain ⟨b3, hb⟩ : ∃ x, wn01.heap.size = x := ⟨_, rfl⟩
        have h3 : wn013.heap[b3]? = some (.cells k3 83 (0, 0)) := by rw [← hw, ← hb]; exact blk_new _ _
        have l3 : w2.heap.size ≤ b3 := by rw [← hb]; exact below_size (by assumption)
        replace h0 : wn013.heap[b0]? = some (.cells k0 122 (0, 0)) := by rw [← hw]; exact blk_alloc h0 _
        replace h1 : wn013.heap[b1]? = some (.cells k1 3 (0, 0)) := by rw [← hw]; exact blk_alloc h1 _
        rw [hw] at hHeld ⊢
        rw [hb]
        clear hw hb
        refine one_ (i := 4) (N := some 12) #[true, true, true, true, true, true, true, true, false, false, false] rfl rfl (by kernel_rfl) (by decide) (fun K hK => ?_)
        refine value_ (by rfl) rfl (run_exec_makeSlice rfl rfl rfl (hm2 wn013)) ?_
        refine hK.out _ _ (below_alloc hHeld _) (fun hHeld => ?_)
        clear hK K
        refine norm_ (a' := ?_) ?_ ?_
        rotate_left
        · show Act.put _ (some 12) _ = _
          simp only [Act.put, List.setIfInBounds_toArray, List.set_cons_zero, List.set_cons_succ, i64_w, i32_w]
          rfl
        obtain ⟨wn0132, hw⟩ : ∃ x, wn013.alloc (.cells k2 5) = x := ⟨_, rfl⟩
        obtain ⟨b2, hb⟩ : ∃ x, wn013.heap.size = x := ⟨_, rfl⟩
        have h2 : wn0132.heap[b2]? = some (.cells k2 5 (0, 0)) := by rw [← hw, ← hb]; exact blk_new _ _
        have l2 : w2.heap.size ≤ b2 := by rw [← hb]; exact below_size (by assumption)
        replace h0 : wn0132.heap[b0]? = some (.cells k0 122 (0, 0)) := by rw [← hw]; exact blk_alloc h0 _
        replace h1 : wn0132.heap[b1]? = some (.cells k1 3 (0, 0)) := by rw [← hw]; exact blk_alloc h1 _
        replace h3 : wn0132.heap[b3]? = some (.cells k3 83 (0, 0)) := by rw [← hw]; exact blk_alloc h3 _
        rw [hw] at hHeld ⊢
        rw [hb]
        clear hw hb
        refine pure_ (i := 8) (N := some 16) (v := .agg #[.slice (some ⟨b0, 0, none⟩) 16 16, .slice (some ⟨b1, 0, none⟩) 6 6, .slice (some ⟨b2, 0, none⟩) 64 64, .slice (some ⟨b3, 0, none⟩) 12 12]) (a' := ?_) #[true, true, true, true, true, true, true, true, true, false, false] rfl rfl (by kernel_rfl) (fun _ _ _ h => h) (yields_build (by rfl) 36 #[(0, .tmp 8), (1, .tmp 11), (2, .tmp 12), (3, .tmp 15)] rfl _ #[.slice (some ⟨b0, 0, none⟩) 16 16, .slice (some ⟨b1, 0, none⟩) 6 6, .slice (some ⟨b2, 0, none⟩) 64 64, .slice (some ⟨b3, 0, none⟩) 12 12] (by simp only [List.map_toArray, List.map_cons, List.map_nil]; rfl) (by kernel_rfl)) ?_ ?_
        rotate_left
        · simp only [Act.put, List.setIfInBounds_toArray, List.set_cons_zero, List.set_cons_succ, i64_w, i32_w]
          rfl
        refine last_ (i := 9) (N := none) #[true, true, true, true, true, true, true, true, true, true, false] rfl rfl (by kernel_rfl) (by decide) (fun K hK => ?_)
        have hz := blk_below HX2.out.met hHeld
        refine skip_ (by rfl) rfl (run_exec_store rfl rfl rfl (store_row (W := wn0132) (ty := 36) (cells := #[.slice (some ⟨b0, 0, none⟩) 16 16, .slice (some ⟨b1, 0, none⟩) 6 6, .slice (some ⟨b2, 0, none⟩) 64 64, .slice (some ⟨b3, 0, none⟩) 12 12]) hz (by rw [sz_meta]; rfl) rfl (by simp [Value.oneCell']))) ?_
        refine hK.out _ _ ?_
        clear hK K
        refine pure_ (i := 10) (N := some 3) (v := ?_) (a' := ?_) #[true, true, true, true, true, true, true, true, true, true, true] rfl rfl (by kernel_rfl) (fun _ _ _ h => h) (Or.inl ⟨by rfl, ?_⟩) ?_ ?_
        rotate_left
        · intro w'
          go_simp
          with_reducible rfl
        rotate_left
        · simp only [Act.put, List.setIfInBounds_toArray, List.set_cons_zero, List.set_cons_succ, i64_w, i32_w]
          rfl
        refine done_ (by kernel_rfl) ?_
        go_wp2_with fail
        refine bodyPost_ret (results_cell_tmp rfl _ _ (w.heap.size + 1) 36 #[.slice (some ⟨b0, 0, none⟩) 16 16, .slice (some ⟨b1, 0, none⟩) 6 6, .slice (some ⟨b2, 0, none⟩) 64 64, .slice (some ⟨b3, 0, none⟩) 12 12] (0, 0) _ rfl (setRow_heap wn0132 _ _ _ _ _ hz) Try.underlying36 rfl sz_meta) rfl ?_
        exact new_post HX2.out E.out h0 h1 h2 h3 l0 l1 l2 l3 hHeld _
    · refine value_ (by rfl) rfl (run_exec_makeSlice rfl rfl rfl (hm2 wn0)) ?_
      refine hK.out _ _ (below_alloc hHeld _) (fun hHeld => ?_)
      clear hK K
      refine norm_ (a' := ?_) ?_ ?_
      rotate_left
      · show Act.put _ (some 12) _ = _
        simp only [Act.put, List.setIfInBounds_toArray, List.set_cons_zero, List.set_cons_succ, i64_w, i32_w]
        rfl
      obtain ⟨wn02, hw⟩ : ∃ x, wn0.alloc (.cells k2 5) = x := ⟨_, rfl⟩
      obtain ⟨b2, hb⟩ : ∃ x, wn0.heap.size = x := ⟨_, rfl⟩
      have h2 : wn02.heap[b2]? = some (.cells k2 5 (0, 0)) := by rw [← hw, ← hb]; exact blk_new _ _
      have l2 : w2.heap.size ≤ b2 := by rw [← hb]; exact below_size (by assumption)
      replace h0 : wn02.heap[b0]? = some (.cells k0 122 (0, 0)) := by rw [← hw]; exact blk_alloc h0 _
      rw [hw] at hHeld ⊢
      rw [hb]
      clear hw hb
      refine two_ (i := 3) (j := 7) (Ni := some 11) (Nj := some 15) #[true, true, true, true, true, true, true, false, false, false, false] #[true, true, true, false, true, true, true, true, false, false, false] rfl rfl rfl rfl (by kernel_rfl) (by decide) (by decide) (fun K hK => ?_) (fun K hK => ?_)
      · refine value_ (by rfl) rfl (run_exec_makeSlice rfl rfl rfl (hm1 wn02)) ?_
        refine hK.out _ _ (below_alloc hHeld _) (fun hHeld => ?_)
        clear hK K
        refine norm_ (a' := ?_) ?_ ?_
        rotate_left
        · show Act.put _ (some 11) _ = _
          simp only [Act.put, List.setIfInBounds_toArray, List.set_cons_zero, List.set_cons_succ, i64_w, i32_w]
          rfl
        obtain ⟨wn021, hw⟩ : ∃ x, wn02.alloc (.cells k1 3) = x := ⟨_, rfl⟩
        obtain ⟨b1, hb⟩ : ∃ x, wn02.heap.size = x := ⟨_, rfl⟩
        have h1 : wn021.heap[b1]? = some (.cells k1 3 (0, 0)) := by rw [← hw, ← hb]; exact blk_new _ _
        have l1 : w2.heap.size ≤ b1 := by rw [← hb]; exact below_size (by assumption)
        replace h0 : wn021.heap[b0]? = some (.cells k0 122 (0, 0)) := by rw [← hw]; exact blk_alloc h0 _
        replace h2 : wn021.heap[b2]? = some (.cells k2 5 (0, 0)) := by rw [← hw]; exact blk_alloc h2 _
        rw [hw] at hHeld ⊢
        rw [hb]
        clear hw hb
        refine one_ (i := 7) (N := some 15) #[true, true, true, true, true, true, true, true, false, false, false] rfl rfl (by kernel_rfl) (by decide) (fun K hK => ?_)
        refine value_ (by rfl) rfl (run_exec_makeSlice rfl rfl rfl (hm3 wn021)) ?_
        refine hK.out _ _ (below_alloc hHeld _) (fun hHeld => ?_)
        clear hK K
        refine norm_ (a' := ?_) ?_ ?_
        rotate_left
        · show Act.put _ (some 15) _ = _
          simp only [Act.put, List.setIfInBounds_toArray, List.set_cons_zero, List.set_cons_succ, i64_w, i32_w]
          rfl
        obtain ⟨wn0213, hw⟩ : ∃ x, wn021.alloc (.cells k3 83) = x := ⟨_, rfl⟩
        obtain ⟨b3, hb⟩ : ∃ x, wn021.heap.size = x := ⟨_, rfl⟩
        have h3 : wn0213.heap[b3]? = some (.cells k3 83 (0, 0)) := by rw [← hw, ← hb]; exact blk_new _ _
        have l3 : w2.heap.size ≤ b3 := by rw [← hb]; exact below_size (by assumption)
        replace h0 : wn0213.heap[b0]? = some (.cells k0 122 (0, 0)) := by rw [← hw]; exact blk_alloc h0 _
        replace h2 : wn0213.heap[b2]? = some (.cells k2 5 (0, 0)) := by rw [← hw]; exact blk_alloc h2 _
        replace h1 : wn0213.heap[b1]? = some (.cells k1 3 (0, 0)) := by rw [← hw]; exact blk_alloc h1 _
        rw [hw] at hHeld ⊢
        rw [hb]
        clear hw hb
        refine pure_ (i := 8) (N := some 16) (v := .agg #[.slice (some ⟨b0, 0, none⟩) 16 16, .slice (some ⟨b1, 0, none⟩) 6 6, .slice (some ⟨b2, 0, none⟩) 64 64, .slice (some ⟨b3, 0, none⟩) 12 12]) (a' := ?_) #[true, true, true, true, true, true, true, true, true, false, false] rfl rfl (by kernel_rfl) (fun _ _ _ h => h) (yields_build (by rfl) 36 #[(0, .tmp 8), (1, .tmp 11), (2, .tmp 12), (3, .tmp 15)] rfl _ #[.slice (some ⟨b0, 0, none⟩) 16 16, .slice (some ⟨b1, 0, none⟩) 6 6, .slice (some ⟨b2, 0, none⟩) 64 64, .slice (some ⟨b3, 0, none⟩) 12 12] (by simp only [List.map_toArray, List.map_cons, List.map_nil]; rfl) (by kernel_rfl)) ?_ ?_
        rotate_left
        · simp only [Act.put, List.setIfInBounds_toArray, List.set_cons_zero, List.set_cons_succ, i64_w, i32_w]
          rfl
        refine last_ (i := 9) (N := none) #[true, true, true, true, true, true, true, true, true, true, false] rfl rfl (by kernel_rfl) (by decide) (fun K hK => ?_)
        have hz := blk_below HX2.out.met hHeld
        refine skip_ (by rfl) rfl (run_exec_store rfl rfl rfl (store_row (W := wn0213) (ty := 36) (cells := #[.slice (some ⟨b0, 0, none⟩) 16 16, .slice (some ⟨b1, 0, none⟩) 6 6, .slice (some ⟨b2, 0, none⟩) 64 64, .slice (some ⟨b3, 0, none⟩) 12 12]) hz (by rw [sz_meta]; rfl) rfl (by simp [Value.oneCell']))) ?_
        refine hK.out _ _ ?_
        clear hK K
        refine pure_ (i := 10) (N := some 3) (v := ?_) (a' := ?_) #[true, true, true, true, true, true, true, true, true, true, true] rfl rfl (by kernel_rfl) (fun _ _ _ h => h) (Or.inl ⟨by rfl, ?_⟩) ?_ ?_
        rotate_left
        · intro w'
          go_simp
          with_reducible rfl
        rotate_left
        · simp only [Act.put, List.setIfInBounds_toArray, List.set_cons_zero, List.set_cons_succ, i64_w, i32_w]
          rfl
        refine done_ (by kernel_rfl) ?_
        go_wp2_with fail
        refine bodyPost_ret (results_cell_tmp rfl _ _ (w.heap.size + 1) 36 #[.slice (some ⟨b0, 0, none⟩) 16 16, .slice (some ⟨b1, 0, none⟩) 6 6, .slice (some ⟨b2, 0, none⟩) 64 64, .slice (some ⟨b3, 0, none⟩) 12 12] (0, 0) _ rfl (setRow_heap wn0213 _ _ _ _ _ hz) Try.underlying36 rfl sz_meta) rfl ?_
        exact new_post HX2.out E.out h0 h1 h2 h3 l0 l1 l2 l3 hHeld _
      · refine value_ (by rfl) rfl (run_exec_makeSlice rfl rfl rfl (hm3 wn02)) ?_
        refine hK.out _ _ (below_alloc hHeld _) (fun hHeld => ?_)
        clear hK K
        refine norm_ (a' := ?_) ?_ ?_
        rotate_left
        · show Act.put _ (some 15) _ = _
          simp only [Act.put, List.setIfInBounds_toArray, List.set_cons_zero, List.set_cons_succ, i64_w, i32_w]
          rfl
        obtain ⟨wn023, hw⟩ : ∃ x, wn02.alloc (.cells k3 83) = x := ⟨_, rfl⟩
        obtain ⟨b3, hb⟩ : ∃ x, wn02.heap.size = x := ⟨_, rfl⟩
        have h3 : wn023.heap[b3]? = some (.cells k3 83 (0, 0)) := by rw [← hw, ← hb]; exact blk_new _ _
        have l3 : w2.heap.size ≤ b3 := by rw [← hb]; exact below_size (by assumption)
        replace h0 : wn023.heap[b0]? = some (.cells k0 122 (0, 0)) := by rw [← hw]; exact blk_alloc h0 _
        replace h2 : wn023.heap[b2]? = some (.cells k2 5 (0, 0)) := by rw [← hw]; exact blk_alloc h2 _
        rw [hw] at hHeld ⊢
        rw [hb]
        clear hw hb
        refine one_ (i := 3) (N := some 11) #[true, true, true, true, true, true, true, true, false, false, false] rfl rfl (by kernel_rfl) (by decide) (fun K hK => ?_)
        refine value_ (by rfl) rfl (run_exec_makeSlice rfl rfl rfl (hm1 wn023)) ?_
        refine hK.out _ _ (below_alloc hHeld _) (fun hHeld => ?_)
        clear hK K
        refine norm_ (a' := ?_) ?_ ?_
        rotate_left
        · show Act.put _ (some 11) _ = _
          simp only [Act.put, List.setIfInBounds_toArray, List.set_cons_zero, List.set_cons_succ, i64_w, i32_w]
          rfl
        obtain ⟨wn0231, hw⟩ : ∃ x, wn023.alloc (.cells k1 3) = x := ⟨_, rfl⟩
        obtain ⟨b1, hb⟩ : ∃ x, wn023.heap.size = x := ⟨_, rfl⟩
        have h1 : wn0231.heap[b1]? = some (.cells k1 3 (0, 0)) := by rw [← hw, ← hb]; exact blk_new _ _
        have l1 : w2.heap.size ≤ b1 := by rw [← hb]; exact below_size (by assumption)
        replace h0 : wn0231.heap[b0]? = some (.cells k0 122 (0, 0)) := by rw [← hw]; exact blk_alloc h0 _
        replace h2 : wn0231.heap[b2]? = some (.cells k2 5 (0, 0)) := by rw [← hw]; exact blk_alloc h2 _
        replace h3 : wn0231.heap[b3]? = some (.cells k3 83 (0, 0)) := by rw [← hw]; exact blk_alloc h3 _
        rw [hw] at hHeld ⊢
        rw [hb]
        clear hw hb
        refine pure_ (i := 8) (N := some 16) (v := .agg #[.slice (some ⟨b0, 0, none⟩) 16 16, .slice (some ⟨b1, 0, none⟩) 6 6, .slice (some ⟨b2, 0, none⟩) 64 64, .slice (some ⟨b3, 0, none⟩) 12 12]) (a' := ?_) #[true, true, true, true, true, true, true, true, true, false, false] rfl rfl (by kernel_rfl) (fun _ _ _ h => h) (yields_build (by rfl) 36 #[(0, .tmp 8), (1, .tmp 11), (2, .tmp 12), (3, .tmp 15)] rfl _ #[.slice (some ⟨b0, 0, none⟩) 16 16, .slice (some ⟨b1, 0, none⟩) 6 6, .slice (some ⟨b2, 0, none⟩) 64 64, .slice (some ⟨b3, 0, none⟩) 12 12] (by simp only [List.map_toArray, List.map_cons, List.map_nil]; rfl) (by kernel_rfl)) ?_ ?_
        rotate_left
        · simp only [Act.put, List.setIfInBounds_toArray, List.set_cons_zero, List.set_cons_succ, i64_w, i32_w]
          rfl
        refine last_ (i := 9) (N := none) #[true, true, true, true, true, true, true, true, true, true, false] rfl rfl (by kernel_rfl) (by decide) (fun K hK => ?_)
        have hz := blk_below HX2.out.met hHeld
        refine skip_ (by rfl) rfl (run_exec_store rfl rfl rfl (store_row (W := wn0231) (ty := 36) (cells := #[.slice (some ⟨b0, 0, none⟩) 16 16, .slice (some ⟨b1, 0, none⟩) 6 6, .slice (some ⟨b2, 0, none⟩) 64 64, .slice (some ⟨b3, 0, none⟩) 12 12]) hz (by rw [sz_meta]; rfl) rfl (by simp [Value.oneCell']))) ?_
        refine hK.out _ _ ?_
        clear hK K
        refine pure_ (i := 10) (N := some 3) (v := ?_) (a' := ?_) #[true, true, true, true, true, true, true, true, true, true, true] rfl rfl (by kernel_rfl) (fun _ _ _ h => h) (Or.inl ⟨by rfl, ?_⟩) ?_ ?_
        rotate_left
        · intro w'
          go_simp
          with_reducible rfl
        rotate_left
        · simp only [Act.put, List.setIfInBounds_toArray, List.set_cons_zero, List.set_cons_succ, i64_w, i32_w]
          rfl
        refine done_ (by kernel_rfl) ?_
        go_wp2_with fail
        refine bodyPost_ret (results_cell_tmp rfl _ _ (w.heap.size + 1) 36 #[.slice (some ⟨b0, 0, none⟩) 16 16, .slice (some ⟨b1, 0, none⟩) 6 6, .slice (some ⟨b2, 0, none⟩) 64 64, .slice (some ⟨b3, 0, none⟩) 12 12] (0, 0) _ rfl (setRow_heap wn0231 _ _ _ _ _ hz) Try.underlying36 rfl sz_meta) rfl ?_
        exact new_post HX2.out E.out h0 h1 h2 h3 l0 l1 l2 l3 hHeld _
    · refine value_ (by rfl) rfl (run_exec_makeSlice rfl rfl rfl (hm3 wn0)) ?_
      refine hK.out _ _ (below_alloc hHeld _) (fun hHeld => ?_)
      clear hK K
      refine norm_ (a' := ?_) ?_ ?_
      rotate_left
      · show Act.put _ (some 15) _ = _
        simp only [Act.put, List.setIfInBounds_toArray, List.set_cons_zero, List.set_cons_succ, i64_w, i32_w]
        rfl
      obtain ⟨wn03, hw⟩ : ∃ x, wn0.alloc (.cells k3 83) = x := ⟨_, rfl⟩
      obtain ⟨b3, hb⟩ : ∃ x, wn0.heap.size = x := ⟨_, rfl⟩
      have h3 : wn03.heap[b3]? = some (.cells k3 83 (0, 0)) := by rw [← hw, ← hb]; exact blk_new _ _
      have l3 : w2.heap.size ≤ b3 := by rw [← hb]; exact below_size (by assumption)
      replace h0 : wn03.heap[b0]? = some (.cells k0 122 (0, 0)) := by rw [← hw]; exact blk_alloc h0 _
      rw [hw] at hHeld ⊢
      rw [hb]
      clear hw hb
      refine two_ (i := 3) (j := 4) (Ni := some 11) (Nj := some 12) #[true, true, true, true, false, true, true, true, false, false, false] #[true, true, true, false, true, true, true, true, false, false, false] rfl rfl rfl rfl (by kernel_rfl) (by decide) (by decide) (fun K hK => ?_) (fun K hK => ?_)
      · refine value_ (by rfl) rfl (run_exec_makeSlice rfl rfl rfl (hm1 wn03)) ?_
        refine hK.out _ _ (below_alloc hHeld _) (fun hHeld => ?_)
        clear hK K
        refine norm_ (a' := ?_) ?_ ?_
        rotate_left
        · show Act.put _ (some 11) _ = _
          simp only [Act.put, List.setIfInBounds_toArray, List.set_cons_zero, List.set_cons_succ, i64_w, i32_w]
          rfl
        obtain ⟨wn031, hw⟩ : ∃ x, wn03.alloc (.cells k1 3) = x := ⟨_, rfl⟩
        obtain ⟨b1, hb⟩ : ∃ x, wn03.heap.size = x := ⟨_, rfl⟩
        have h1 : wn031.heap[b1]? = some (.cells k1 3 (0, 0)) := by rw [← hw, ← hb]; exact blk_new _ _
        have l1 : w2.heap.size ≤ b1 := by rw [← hb]; exact below_size (by assumption)
        replace h0 : wn031.heap[b0]? = some (.cells k0 122 (0, 0)) := by rw [← hw]; exact blk_alloc h0 _
        replace h3 : wn031.heap[b3]? = some (.cells k3 83 (0, 0)) := by rw [← hw]; exact blk_alloc h3 _
        rw [hw] at hHeld ⊢
        rw [hb]
        clear hw hb
        refine one_ (i := 4) (N := some 12) #[true, true, true, true, true, true, true, true, false, false, false] rfl rfl (by kernel_rfl) (by decide) (fun K hK => ?_)
        refine value_ (by rfl) rfl (run_exec_makeSlice rfl rfl rfl (hm2 wn031)) ?_
        refine hK.out _ _ (below_alloc hHeld _) (fun hHeld => ?_)
        clear hK K
        refine norm_ (a' := ?_) ?_ ?_
        rotate_left
        · show Act.put _ (some 12) _ = _
          simp only [Act.put, List.setIfInBounds_toArray, List.set_cons_zero, List.set_cons_succ, i64_w, i32_w]
          rfl
        obtain ⟨wn0312, hw⟩ : ∃ x, wn031.alloc (.cells k2 5) = x := ⟨_, rfl⟩
        obtain ⟨b2, hb⟩ : ∃ x, wn031.heap.size = x := ⟨_, rfl⟩
        have h2 : wn0312.heap[b2]? = some (.cells k2 5 (0, 0)) := by rw [← hw, ← hb]; exact blk_new _ _
        have l2 : w2.heap.size ≤ b2 := by rw [← hb]; exact below_size (by assumption)
        replace h0 : wn0312.heap[b0]? = some (.cells k0 122 (0, 0)) := by rw [← hw]; exact blk_alloc h0 _
        replace h3 : wn0312.heap[b3]? = some (.cells k3 83 (0, 0)) := by rw [← hw]; exact blk_alloc h3 _
        replace h1 : wn0312.heap[b1]? = some (.cells k1 3 (0, 0)) := by rw [← hw]; exact blk_alloc h1 _
        rw [hw] at hHeld ⊢
        rw [hb]
        clear hw hb
        refine pure_ (i := 8) (N := some 16) (v := .agg #[.slice (some ⟨b0, 0, none⟩) 16 16, .slice (some ⟨b1, 0, none⟩) 6 6, .slice (some ⟨b2, 0, none⟩) 64 64, .slice (some ⟨b3, 0, none⟩) 12 12]) (a' := ?_) #[true, true, true, true, true, true, true, true, true, false, false] rfl rfl (by kernel_rfl) (fun _ _ _ h => h) (yields_build (by rfl) 36 #[(0, .tmp 8), (1, .tmp 11), (2, .tmp 12), (3, .tmp 15)] rfl _ #[.slice (some ⟨b0, 0, none⟩) 16 16, .slice (some ⟨b1, 0, none⟩) 6 6, .slice (some ⟨b2, 0, none⟩) 64 64, .slice (some ⟨b3, 0, none⟩) 12 12] (by simp only [List.map_toArray, List.map_cons, List.map_nil]; rfl) (by kernel_rfl)) ?_ ?_
        rotate_left
        · simp only [Act.put, List.setIfInBounds_toArray, List.set_cons_zero, List.set_cons_succ, i64_w, i32_w]
          rfl
        refine last_ (i := 9) (N := none) #[true, true, true, true, true, true, true, true, true, true, false] rfl rfl (by kernel_rfl) (by decide) (fun K hK => ?_)
        have hz := blk_below HX2.out.met hHeld
        refine skip_ (by rfl) rfl (run_exec_store rfl rfl rfl (store_row (W := wn0312) (ty := 36) (cells := #[.slice (some ⟨b0, 0, none⟩) 16 16, .slice (some ⟨b1, 0, none⟩) 6 6, .slice (some ⟨b2, 0, none⟩) 64 64, .slice (some ⟨b3, 0, none⟩) 12 12]) hz (by rw [sz_meta]; rfl) rfl (by simp [Value.oneCell']))) ?_
        refine hK.out _ _ ?_
        clear hK K
        refine pure_ (i := 10) (N := some 3) (v := ?_) (a' := ?_) #[true, true, true, true, true, true, true, true, true, true, true] rfl rfl (by kernel_rfl) (fun _ _ _ h => h) (Or.inl ⟨by rfl, ?_⟩) ?_ ?_
        rotate_left
        · intro w'
          go_simp
          with_reducible rfl
        rotate_left
        · simp only [Act.put, List.setIfInBounds_toArray, List.set_cons_zero, List.set_cons_succ, i64_w, i32_w]
          rfl
        refine done_ (by kernel_rfl) ?_
        go_wp2_with fail
        refine bodyPost_ret (results_cell_tmp rfl _ _ (w.heap.size + 1) 36 #[.slice (some ⟨b0, 0, none⟩) 16 16, .slice (some ⟨b1, 0, none⟩) 6 6, .slice (some ⟨b2, 0, none⟩) 64 64, .slice (some ⟨b3, 0, none⟩) 12 12] (0, 0) _ rfl (setRow_heap wn0312 _ _ _ _ _ hz) Try.underlying36 rfl sz_meta) rfl ?_
        exact new_post HX2.out E.out h0 h1 h2 h3 l0 l1 l2 l3 hHeld _
      · refine value_ (by rfl) rfl (run_exec_makeSlice rfl rfl rfl (hm2 wn03)) ?_
        refine hK.out _ _ (below_alloc hHeld _) (fun hHeld => ?_)
        clear hK K
        refine norm_ (a' := ?_) ?_ ?_
        rotate_left
        · show Act.put _ (some 12) _ = _
          simp only [Act.put, List.setIfInBounds_toArray, List.set_cons_zero, List.set_cons_succ, i64_w, i32_w]
          rfl
        obtain ⟨wn032, hw⟩ : ∃ x, wn03.alloc (.cells k2 5) = x := ⟨_, rfl⟩
        obtain ⟨b2, hb⟩ : ∃ x, wn03.heap.size = x := ⟨_, rfl⟩
        have h2 : wn032.heap[b2]? = some (.cells k2 5 (0, 0)) := by rw [← hw, ← hb]; exact blk_new _ _
        have l2 : w2.heap.size ≤ b2 := by rw [← hb]; exact below_size (by assumption)
        replace h0 : wn032.heap[b0]? = some (.cells k0 122 (0, 0)) := by rw [← hw]; exact blk_alloc h0 _
        replace h3 : wn032.heap[b3]? = some (.cells k3 83 (0, 0)) := by rw [← hw]; exact blk_alloc h3 _
        rw [hw] at hHeld ⊢
        rw [hb]
        clear hw hb
        refine one_ (i := 3) (N := some 11) #[true, true, true, true, true, true, true, true, false, false, false] rfl rfl (by kernel_rfl) (by decide) (fun K hK => ?_)
        refine value_ (by rfl) rfl (run_exec_makeSlice rfl rfl rfl (hm1 wn032)) ?_
        refine hK.out _ _ (below_alloc hHeld _) (fun hHeld => ?_)
        clear hK K
        refine norm_ (a' := ?_) ?_ ?_
        rotate_left
        · show Act.put _ (some 11) _ = _
          simp only [Act.put, List.setIfInBounds_toArray, List.set_cons_zero, List.set_cons_succ, i64_w, i32_w]
          rfl
        obtain ⟨wn0321, hw⟩ : ∃ x, wn032.alloc (.cells k1 3) = x := ⟨_, rfl⟩
        obtain ⟨b1, hb⟩ : ∃ x, wn032.heap.size = x := ⟨_, rfl⟩
        have h1 : wn0321.heap[b1]? = some (.cells k1 3 (0, 0)) := by rw [← hw, ← hb]; exact blk_new _ _
        have l1 : w2.heap.size ≤ b1 := by rw [← hb]; exact below_size (by assumption)
        replace h0 : wn0321.heap[b0]? = some (.cells k0 122 (0, 0)) := by rw [← hw]; exact blk_alloc h0 _
        replace h3 : wn0321.heap[b3]? = some (.cells k3 83 (0, 0)) := by rw [← hw]; exact blk_alloc h3 _
        replace h2 : wn0321.heap[b2]? = some (.cells k2 5 (0, 0)) := by rw [← hw]; exact blk_alloc h2 _
        rw [hw] at hHeld ⊢
        rw [hb]
        clear hw hb
        refine pure_ (i := 8) (N := some 16) (v := .agg #[.slice (some ⟨b0, 0, none⟩) 16 16, .slice (some ⟨b1, 0, none⟩) 6 6, .slice (some ⟨b2, 0, none⟩) 64 64, .slice (some ⟨b3, 0, none⟩) 12 12]) (a' := ?_) #[true, true, true, true, true, true, true, true, true, false, false] rfl rfl (by kernel_rfl) (fun _ _ _ h => h) (yields_build (by rfl) 36 #[(0, .tmp 8), (1, .tmp 11), (2, .tmp 12), (3, .tmp 15)] rfl _ #[.slice (some ⟨b0, 0, none⟩) 16 16, .slice (some ⟨b1, 0, none⟩) 6 6, .slice (some ⟨b2, 0, none⟩) 64 64, .slice (some ⟨b3, 0, none⟩) 12 12] (by simp only [List.map_toArray, List.map_cons, List.map_nil]; rfl) (by kernel_rfl)) ?_ ?_
        rotate_left
        · simp only [Act.put, List.setIfInBounds_toArray, List.set_cons_zero, List.set_cons_succ, i64_w, i32_w]
          rfl
        refine last_ (i := 9) (N := none) #[true, true, true, true, true, true, true, true, true, true, false] rfl rfl (by kernel_rfl) (by decide) (fun K hK => ?_)
        have hz := blk_below HX2.out.met hHeld
        refine skip_ (by rfl) rfl (run_exec_store rfl rfl rfl (store_row (W := wn0321) (ty := 36) (cells := #[.slice (some ⟨b0, 0, none⟩) 16 16, .slice (some ⟨b1, 0, none⟩) 6 6, .slice (some ⟨b2, 0, none⟩) 64 64, .slice (some ⟨b3, 0, none⟩) 12 12]) hz (by rw [sz_meta]; rfl) rfl (by simp [Value.oneCell']))) ?_
        refine hK.out _ _ ?_
        clear hK K
        refine pure_ (i := 10) (N := some 3) (v := ?_) (a' := ?_) #[true, true, true, true, true, true, true, true, true, true, true] rfl rfl (by kernel_rfl) (fun _ _ _ h => h) (Or.inl ⟨by rfl, ?_⟩) ?_ ?_
        rotate_left
        · intro w'
          go_simp
          with_reducible rfl
        rotate_left
        · simp only [Act.put, List.setIfInBounds_toArray, List.set_cons_zero, List.set_cons_succ, i64_w, i32_w]
          rfl
        refine done_ (by kernel_rfl) ?_
        go_wp2_with fail
        refine bodyPost_ret (results_cell_tmp rfl _ _ (w.heap.size + 1) 36 #[.slice (some ⟨b0, 0, none⟩) 16 16, .slice (some ⟨b1, 0, none⟩) 6 6, .slice (some ⟨b2, 0, none⟩) 64 64, .slice (some ⟨b3, 0, none⟩) 12 12] (0, 0) _ rfl (setRow_heap wn0321 _ _ _ _ _ hz) Try.underlying36 rfl sz_meta) rfl ?_
        exact new_post HX2.out E.out h0 h1 h2 h3 l0 l1 l2 l3 hHeld _
  · refine value_ (by rfl) rfl (run_exec_makeSlice rfl rfl rfl (hm1 w2.drew)) ?_
    refine hK.out _ _ (below_alloc hHeld _) (fun hHeld => ?_)
    clear hK K
    refine norm_ (a' := ?_) ?_ ?_
    rotate_left
    · show Act.put _ (some 11) _ = _
      simp only [Act.put, List.setIfInBounds_toArray, List.set_cons_zero, List.set_cons_succ, i64_w, i32_w]
      rfl
    obtain ⟨wn1, hw⟩ : ∃ x, w2.drew.alloc (.cells k1 3) = x := ⟨_, rfl⟩
    obtain ⟨b1, hb⟩ : ∃ x, w2.drew.heap.size = x := ⟨_, rfl⟩
    have h1 : wn1.heap[b1]? = some (.cells k1 3 (0, 0)) := by rw [← hw, ← hb]; exact blk_new _ _
    have l1 : w2.heap.size ≤ b1 := by rw [← hb]; exact below_size (by assumption)
    rw [hw] at hHeld ⊢
    rw [hb]
    clear hw hb
    refine three_ (i := 0) (j := 4) (k := 7) (Ni := some 8) (Nj := some 12) (Nk := some 15) #[true, true, true, true, false, true, true, false, false, false, false] #[false, true, true, true, true, true, true, false, false, false, false] #[false, true, true, true, false, true, true, true, false, false, false] rfl rfl rfl rfl rfl rfl (by kernel_rfl) (by decide) (by decide) (by decide) (fun K hK => ?_) (fun K hK => ?_) (fun K hK => ?_)
    · refine value_ (by rfl) rfl (run_exec_makeSlice rfl rfl rfl (hm0 wn1)) ?_
      refine hK.out _ _ (below_alloc hHeld _) (fun hHeld => ?_)
      clear hK K
      refine norm_ (a' := ?_) ?_ ?_
      rotate_left
      · show Act.put _ (some 8) _ = _
        simp only [Act.put, List.setIfInBounds_toArray, List.set_cons_zero, List.set_cons_succ, i64_w, i32_w]
        rfl
      obtain ⟨wn10, hw⟩ : ∃ x, wn1.alloc (.cells k0 122) = x := ⟨_, rfl⟩
      obtain ⟨b0, hb⟩ : ∃ x, wn1.heap.size = x := ⟨_, rfl⟩
      have h0 : wn10.heap[b0]? = some (.cells k0 122 (0, 0)) := by rw [← hw, ← hb]; exact blk_new _ _
      have l0 : w2.heap.size ≤ b0 := by rw [← hb]; exact below_size (by assumption)
      replace h1 : wn10.heap[b1]? = some (.cells k1 3 (0, 0)) := by rw [← hw]; exact blk_alloc h1 _
      rw [hw] at hHeld ⊢
      rw [hb]
      clear hw hb
      refine two_ (i := 4) (j := 7) (Ni := some 12) (Nj := some 15) #[true, true, true, true, true, true, true, false, false, false, false] #[true, true, true, true, false, true, true, true, false, false, false] rfl rfl rfl rfl (by kernel_rfl) (by decide) (by decide) (fun K hK => ?_) (fun K hK => ?_)
      · refine value_ (by rfl) rfl (run_exec_makeSlice rfl rfl rfl (hm2 wn10)) ?_
        refine hK.out _ _ (below_alloc hHeld _) (fun hHeld => ?_)
        clear hK K
        refine norm_ (a' := ?_) ?_ ?_
        rotate_left
        · show Act.put _ (some 12) _ = _
          simp only [Act.put, List.setIfInBounds_toArray, List.set_cons_zero, List.set_cons_succ, i64_w, i32_w]
          rfl
        obtain ⟨wn102, hw⟩ : ∃ x, wn10.alloc (.cells k2 5) = x := ⟨_, rfl⟩
        obtain ⟨b2, hb⟩ : ∃ x, wn10.heap.size = x := ⟨_, rfl⟩
        have h2 : wn102.heap[b2]? = some (.cells k2 5 (0, 0)) := by rw [← hw, ← hb]; exact blk_new _ _
        have l2 : w2.heap.size ≤ b2 := by rw [← hb]; exact below_size (by assumption)
        replace h1 : wn102.heap[b1]? = some (.cells k1 3 (0, 0)) := by rw [← hw]; exact blk_alloc h1 _
        replace h0 : wn102.heap[b0]? = some (.cells k0 122 (0, 0)) := by rw [← hw]; exact blk_alloc h0 _
        rw [hw] at hHeld ⊢
        rw [hb]
        clear hw hb
        refine one_ (i := 7) (N := some 15) #[true, true, true, true, true, true, true, true, false, false, false] rfl rfl (by kernel_rfl) (by decide) (fun K hK => ?_)
        refine value_ (by rfl) rfl (run_exec_makeSlice rfl rfl rfl (hm3 wn102)) ?_
        refine hK.out _ _ (below_alloc hHeld _) (fun hHeld => ?_)
        clear hK K
        refine norm_ (a' := ?_) ?_ ?_
        rotate_left
        · show Act.put _ (some 15) _ = _
          simp only [Act.put, List.setIfInBounds_toArray, List.set_cons_zero, List.set_cons_succ, i64_w, i32_w]
          rfl
        obtain ⟨wn1023, hw⟩ : ∃ x, wn102.alloc (.cells k3 83) = x := ⟨_, rfl⟩
        obtain ⟨b3, hb⟩ : ∃ x, wn102.heap.size = x := ⟨_, rfl⟩
        have h3 : wn1023.heap[b3]? = some (.cells k3 83 (0, 0)) := by rw [← hw, ← hb]; exact blk_new _ _
        have l3 : w2.heap.size ≤ b3 := by rw [← hb]; exact below_size (by assumption)
        replace h1 : wn1023.heap[b1]? = some (.cells k1 3 (0, 0)) := by rw [← hw]; exact blk_alloc h1 _
        replace h0 : wn1023.heap[b0]? = some (.cells k0 122 (0, 0)) := by rw [← hw]; exact blk_alloc h0 _
        replace h2 : wn1023.heap[b2]? = some (.cells k2 5 (0, 0)) := by rw [← hw]; exact blk_alloc h2 _
        rw [hw] at hHeld ⊢
        rw [hb]
        clear hw hb
        refine pure_ (i := 8) (N := some 16) (v := .agg #[.slice (some ⟨b0, 0, none⟩) 16 16, .slice (some ⟨b1, 0, none⟩) 6 6, .slice (some ⟨b2, 0, none⟩) 64 64, .slice (some ⟨b3, 0, none⟩) 12 12]) (a' := ?_) #[true, true, true, true, true, true, true, true, true, false, false] rfl rfl (by kernel_rfl) (fun _ _ _ h => h) (yields_build (by rfl) 36 #[(0, .tmp 8), (1, .tmp 11), (2, .tmp 12), (3, .tmp 15)] rfl _ #[.slice (some ⟨b0, 0, none⟩) 16 16, .slice (some ⟨b1, 0, none⟩) 6 6, .slice (some ⟨b2, 0, none⟩) 64 64, .slice (some ⟨b3, 0, none⟩) 12 12] (by simp only [List.map_toArray, List.map_cons, List.map_nil]; rfl) (by kernel_rfl)) ?_ ?_
        rotate_left
        · simp only [Act.put, List.setIfInBounds_toArray, List.set_cons_zero, List.set_cons_succ, i64_w, i32_w]
          rfl
        refine last_ (i := 9) (N := none) #[true, true, true, true, true, true, true, true, true, true, false] rfl rfl (by kernel_rfl) (by decide) (fun K hK => ?_)
        have hz := blk_below HX2.out.met hHeld
        refine skip_ (by rfl) rfl (run_exec_store rfl rfl rfl (store_row (W := wn1023) (ty := 36) (cells := #[.slice (some ⟨b0, 0, none⟩) 16 16, .slice (some ⟨b1, 0, none⟩) 6 6, .slice (some ⟨b2, 0, none⟩) 64 64, .slice (some ⟨b3, 0, none⟩) 12 12]) hz (by rw [sz_meta]; rfl) rfl (by simp [Value.oneCell']))) ?_
        refine hK.out _ _ ?_
        clear hK K
        refine pure_ (i := 10) (N := some 3) (v := ?_) (a' := ?_) #[true, true, true, true, true, true, true, true, true, true, true] rfl rfl (by kernel_rfl) (fun _ _ _ h => h) (Or.inl ⟨by rfl, ?_⟩) ?_ ?_
        rotate_left
        · intro w'
          go_simp
          with_reducible rfl
        rotate_left
        · simp only [Act.put, List.setIfInBounds_toArray, List.set_cons_zero, List.set_cons_succ, i64_w, i32_w]
          rfl
        refine done_ (by kernel_rfl) ?_
        go_wp2_with fail
        refine bodyPost_ret (results_cell_tmp rfl _ _ (w.heap.size + 1) 36 #[.slice (some ⟨b0, 0, none⟩) 16 16, .slice (some ⟨b1, 0, none⟩) 6 6, .slice (some ⟨b2, 0, none⟩) 64 64, .slice (some ⟨b3, 0, none⟩) 12 12] (0, 0) _ rfl (setRow_heap wn1023 _ _ _ _ _ hz) Try.underlying36 rfl sz_meta) rfl ?_
        exact new_post HX2.out E.out h0 h1 h2 h3 l0 l1 l2 l3 hHeld _
      · refine value_ (by rfl) rfl (run_exec_makeSlice rfl rfl rfl (hm3 wn10)) ?_
        refine hK.out _ _ (below_alloc hHeld _) (fun hHeld => ?_)
        clear hK K
        refine norm_ (a' := ?_) ?_ ?_
        rotate_left
        · show Act.put _ (some 15) _ = _
          simp only [Act.put, List.setIfInBounds_toArray, List.set_cons_zero, List.set_cons_succ, i64_w, i32_w]
          rfl
        obtain ⟨wn103, hw⟩ : ∃ x, wn10.alloc (.cells k3 83) = x := ⟨_, rfl⟩
        obtain ⟨b3, hb⟩ : ∃ x, wn10.heap.size = x := ⟨_, rfl⟩
        have h3 : wn103.heap[b3]? = some (.cells k3 83 (0, 0)) := by rw [← hw, ← hb]; exact blk_new _ _
        have l3 : w2.heap.size ≤ b3 := by rw [← hb]; exact below_size (by assumption)
        replace h1 : wn103.heap[b1]? = some (.cells k1 3 (0, 0)) := by rw [← hw]; exact blk_alloc h1 _
        replace h0 : wn103.heap[b0]? = some (.cells k0 122 (0, 0)) := by rw [← hw]; exact blk_alloc h0 _
        rw [hw] at hHeld ⊢
        rw [hb]
        clear hw hb
        refine one_ (i := 4) (N := some 12) #[true, true, true, true, true, true, true, true, false, false, false] rfl rfl (by kernel_rfl) (by decide) (fun K hK => ?_)
        refine value_ (by rfl) rfl (run_exec_makeSlice rfl rfl rfl (hm2 wn103)) ?_
        refine hK.out _ _ (below_alloc hHeld _) (fun hHeld => ?_)
        clear hK K
        refine norm_ (a' := ?_) ?_ ?_
        rotate_left
        · show Act.put _ (some 12) _ = _
          simp only [Act.put, List.setIfInBounds_toArray, List.set_cons_zero, List.set_cons_succ, i64_w, i32_w]
          rfl
        obtain ⟨wn1032, hw⟩ : ∃ x, wn103.alloc (.cells k2 5) = x := ⟨_, rfl⟩
        obtain ⟨b2, hb⟩ : ∃ x, wn103.heap.size = x := ⟨_, rfl⟩
        have h2 : wn1032.heap[b2]? = some (.cells k2 5 (0, 0)) := by rw [← hw, ← hb]; exact blk_new _ _
        have l2 : w2.heap.size ≤ b2 := by rw [← hb]; exact below_size (by assumption)
        replace h1 : wn1032.heap[b1]? = some (.cells k1 3 (0, 0)) := by rw [← hw]; exact blk_alloc h1 _
        replace h0 : wn1032.heap[b0]? = some (.cells k0 122 (0, 0)) := by rw [← hw]; exact blk_alloc h0 _
        replace h3 : wn1032.heap[b3]? = some (.cells k3 83 (0, 0)) := by rw [← hw]; exact blk_alloc h3 _
        rw [hw] at hHeld ⊢
        rw [hb]
        clear hw hb
        refine pure_ (i := 8) (N := some 16) (v := .agg #[.slice (some ⟨b0, 0, none⟩) 16 16, .slice (some ⟨b1, 0, none⟩) 6 6, .slice (some ⟨b2, 0, none⟩) 64 64, .slice (some ⟨b3, 0, none⟩) 12 12]) (a' := ?_) #[true, true, true, true, true, true, true, true, true, false, false] rfl rfl (by kernel_rfl) (fun _ _ _ h => h) (yields_build (by rfl) 36 #[(0, .tmp 8), (1, .tmp 11), (2, .tmp 12), (3, .tmp 15)] rfl _ #[.slice (some ⟨b0, 0, none⟩) 16 16, .slice (some ⟨b1, 0, none⟩) 6 6, .slice (some ⟨b2, 0, none⟩) 64 64, .slice (some ⟨b3, 0, none⟩) 12 12] (by simp only [List.map_toArray, List.map_cons, List.map_nil]; rfl) (by kernel_rfl)) ?_ ?_
        rotate_left
        · simp only [Act.put, List.setIfInBounds_toArray, List.set_cons_zero, List.set_cons_succ, i64_w, i32_w]
          rfl
        refine last_ (i := 9) (N := none) #[true, true, true, true, true, true, true, true, true, true, false] rfl rfl (by kernel_rfl) (by decide) (fun K hK => ?_)
        have hz := blk_below HX2.out.met hHeld
        refine skip_ (by rfl) rfl (run_exec_store rfl rfl rfl (store_row (W := wn1032) (ty := 36) (cells := #[.slice (some ⟨b0, 0, none⟩) 16 16, .slice (some ⟨b1, 0, none⟩) 6 6, .slice (some ⟨b2, 0, none⟩) 64 64, .slice (some ⟨b3, 0, none⟩) 12 12]) hz (by rw [sz_meta]; rfl) rfl (by simp [Value.oneCell']))) ?_
        refine hK.out _ _ ?_
        clear hK K
        refine pure_ (i := 10) (N := some 3) (v := ?_) (a' := ?_) #[true, true, true, true, true, true, true, true, true, true, true] rfl rfl (by kernel_rfl) (fun _ _ _ h => h) (Or.inl ⟨by rfl, ?_⟩) ?_ ?_
        rotate_left
        · intro w'
          go_simp
          with_reducible rfl
        rotate_left
        · simp only [Act.put, List.setIfInBounds_toArray, List.set_cons_zero, List.set_cons_succ, i64_w, i32_w]
          rfl
        refine done_ (by kernel_rfl) ?_
        go_wp2_with fail
        refine bodyPost_ret (results_cell_tmp rfl _ _ (w.heap.size + 1) 36 #[.slice (some ⟨b0, 0, none⟩) 16 16, .slice (some ⟨b1, 0, none⟩) 6 6, .slice (some ⟨b2, 0, none⟩) 64 64, .slice (some ⟨b3, 0, none⟩) 12 12] (0, 0) _ rfl (setRow_heap wn1032 _ _ _ _ _ hz) Try.underlying36 rfl sz_meta) rfl ?_
        exact new_post HX2.out E.out h0 h1 h2 h3 l0 l1 l2 l3 hHeld _
    · refine value_ (by rfl) rfl (run_exec_makeSlice rfl rfl rfl (hm2 wn1)) ?_
      refine hK.out _ _ (below_alloc hHeld _) (fun hHeld => ?_)
      clear hK K
      refine norm_ (a' := ?_) ?_ ?_
      rotate_left
      · show Act.put _ (some 12) _ = _
        simp only [Act.put, List.setIfInBounds_toArray, List.set_cons_zero, List.set_cons_succ, i64_w, i32_w]
        rfl
      obtain ⟨wn12, hw⟩ : ∃ x, wn1.alloc (.cells k2 5) = x := ⟨_, rfl⟩
      obtain ⟨b2, hb⟩ : ∃ x, wn1.heap.size = x := ⟨_, rfl⟩
      have h2 : wn12.heap[b2]? = some (.cells k2 5 (0, 0)) := by rw [← hw, ← hb]; exact blk_new _ _
      have l2 : w2.heap.size ≤ b2 := by rw [← hb]; exact below_size (by assumption)
      replace h1 : wn12.heap[b1]? = some (.cells k1 3 (0, 0)) := by rw [← hw]; exact blk_alloc h1 _
      rw [hw] at hHeld ⊢
      rw [hb]
      clear hw hb
      refine two_ (i := 0) (j := 7) (Ni := some 8) (Nj := some 15) #[true, true, true, true, true, true, true, false, false, false, false] #[false, true, true, true, true, true, true, true, false, false, false] rfl rfl rfl rfl (by kernel_rfl) (by decide) (by decide) (fun K hK => ?_) (fun K hK => ?_)
      · refine value_ (by rfl) rfl (run_exec_makeSlice rfl rfl rfl (hm0 wn12)) ?_
        refine hK.out _ _ (below_alloc hHeld _) (fun hHeld => ?_)
        clear hK K
        refine norm_ (a' := ?_) ?_ ?_
        rotate_left
        · show Act.put _ (some 8) _ = _
          simp only [Act.put, List.setIfInBounds_toArray, List.set_cons_zero, List.set_cons_succ, i64_w, i32_w]
          rfl
        obtain ⟨wn120, hw⟩ : ∃ x, wn12.alloc (.cells k0 122) = x := ⟨_, rfl⟩
        obtain ⟨b0, hb⟩ : ∃ x, wn12.heap.size = x := ⟨_, rfl⟩
        have h0 : wn120.heap[b0]? = some (.cells k0 122 (0, 0)) := by rw [← hw, ← hb]; exact blk_new _ _
        have l0 : w2.heap.size ≤ b0 := by rw [← hb]; exact below_size (by assumption)
        replace h1 : wn120.heap[b1]? = some (.cells k1 3 (0, 0)) := by rw [← hw]; exact blk_alloc h1 _
        replace h2 : wn120.heap[b2]? = some (.cells k2 5 (0, 0)) := by rw [← hw]; exact blk_alloc h2 _
        rw [hw] at hHeld ⊢
        rw [hb]
        clear hw hb
        refine one_ (i := 7) (N := some 15) #[true, true, true, true, true, true, true, true, false, false, false] rfl rfl (by kernel_rfl) (by decide) (fun K hK => ?_)
        refine value_ (by rfl) rfl (run_exec_makeSlice rfl rfl rfl (hm3 wn120)) ?_
        refine hK.out _ _ (below_alloc hHeld _) (fun hHeld => ?_)
        clear hK K
        refine norm_ (a' := ?_) ?_ ?_
        rotate_left
        · show Act.put _ (some 15) _ = _
          simp only [Act.put, List.setIfInBounds_toArray, List.set_cons_zero, List.set_cons_succ, i64_w, i32_w]
          rfl
        obtain ⟨wn1203, hw⟩ : ∃ x, wn120.alloc (.cells k3 83) = x := ⟨_, rfl⟩
        obtain ⟨b3, hb⟩ : ∃ x, wn120.heap.size = x := ⟨_, rfl⟩
        have h3 : wn1203.heap[b3]? = some (.cells k3 83 (0, 0)) := by rw [← hw, ← hb]; exact blk_new _ _
        have l3 : w2.heap.size ≤ b3 := by rw [← hb]; exact below_size (by assumption)
        replace h1 : wn1203.heap[b1]? = some (.cells k1 3 (0, 0)) := by rw [← hw]; exact blk_alloc h1 _
        replace h2 : wn1203.heap[b2]? = some (.cells k2 5 (0, 0)) := by rw [← hw]; exact blk_alloc h2 _
        replace h0 : wn1203.heap[b0]? = some (.cells k0 122 (0, 0)) := by rw [← hw]; exact blk_alloc h0 _
        rw [hw] at hHeld ⊢
        rw [hb]
        clear hw hb
        refine pure_ (i := 8) (N := some 16) (v := .agg #[.slice (some ⟨b0, 0, none⟩) 16 16, .slice (some ⟨b1, 0, none⟩) 6 6, .slice (some ⟨b2, 0, none⟩) 64 64, .slice (some ⟨b3, 0, none⟩) 12 12]) (a' := ?_) #[true, true, true, true, true, true, true, true, true, false, false] rfl rfl (by kernel_rfl) (fun _ _ _ h => h) (yields_build (by rfl) 36 #[(0, .tmp 8), (1, .tmp 11), (2, .tmp 12), (3, .tmp 15)] rfl _ #[.slice (some ⟨b0, 0, none⟩) 16 16, .slice (some ⟨b1, 0, none⟩) 6 6, .slice (some ⟨b2, 0, none⟩) 64 64, .slice (some ⟨b3, 0, none⟩) 12 12] (by simp only [List.map_toArray, List.map_cons, List.map_nil]; rfl) (by kernel_rfl)) ?_ ?_
        rotate_left
        · simp only [Act.put, List.setIfInBounds_toArray, List.set_cons_zero, List.set_cons_succ, i64_w, i32_w]
          rfl
        refine last_ (i := 9) (N := none) #[true, true, true, true, true, true, true, true, true, true, false] rfl rfl (by kernel_rfl) (by decide) (fun K hK => ?_)
        have hz := blk_below HX2.out.met hHeld
        refine skip_ (by rfl) rfl (run_exec_store rfl rfl rfl (store_row (W := wn1203) (ty := 36) (cells := #[.slice (some ⟨b0, 0, none⟩) 16 16, .slice (some ⟨b1, 0, none⟩) 6 6, .slice (some ⟨b2, 0, none⟩) 64 64, .slice (some ⟨b3, 0, none⟩) 12 12]) hz (by rw [sz_meta]; rfl) rfl (by simp [Value.oneCell']))) ?_
        refine hK.out _ _ ?_
        clear hK K
        refine pure_ (i := 10) (N := some 3) (v := ?_) (a' := ?_) #[true, true, true, true, true, true, true, true, true, true, true] rfl rfl (by kernel_rfl) (fun _ _ _ h => h) (Or.inl ⟨by rfl, ?_⟩) ?_ ?_
        rotate_left
        · intro w'
          go_simp
          with_reducible rfl
        rotate_left
        · simp only [Act.put, List.setIfInBounds_toArray, List.set_cons_zero, List.set_cons_succ, i64_w, i32_w]
          rfl
        refine done_ (by kernel_rfl) ?_
        go_wp2_with fail
        refine bodyPost_ret (results_cell_tmp rfl _ _ (w.heap.size + 1) 36 #[.slice (some ⟨b0, 0, none⟩) 16 16, .slice (some ⟨b1, 0, none⟩) 6 6, .slice (some ⟨b2, 0, none⟩) 64 64, .slice (some ⟨b3, 0, none⟩) 12 12] (0, 0) _ rfl (setRow_heap wn1203 _ _ _ _ _ hz) Try.underlying36 rfl sz_meta) rfl ?_
        exact new_post HX2.out E.out h0 h1 h2 h3 l0 l1 l2 l3 hHeld _
      · refine value_ (by rfl) rfl (run_exec_makeSlice rfl rfl rfl (hm3 wn12)) ?_
        refine hK.out _ _ (below_alloc hHeld _) (fun hHeld => ?_)
        clear hK K
        refine norm_ (a' := ?_) ?_ ?_
        rotate_left
        · show Act.put _ (some 15) _ = _
          simp only [Act.put, List.setIfInBounds_toArray, List.set_cons_zero, List.set_cons_succ, i64_w, i32_w]
          rfl
        obtain ⟨wn123, hw⟩ : ∃ x, wn12.alloc (.cells k3 83) = x := ⟨_, rfl⟩
        obtain ⟨b3, hb⟩ : ∃ x, wn12.heap.size = x := ⟨_, rfl⟩
        have h3 : wn123.heap[b3]? = some (.cells k3 83 (0, 0)) := by rw [← hw, ← hb]; exact blk_new _ _
        have l3 : w2.heap.size ≤ b3 := by rw [← hb]; exact below_size (by assumption)
        replace h1 : wn123.heap[b1]? = some (.cells k1 3 (0, 0)) := by rw [← hw]; exact blk_alloc h1 _
        replace h2 : wn123.heap[b2]? = some (.cells k2 5 (0, 0)) := by rw [← hw]; exact blk_alloc h2 _
        rw [hw] at hHeld ⊢
        rw [hb]
        clear hw hb
        refine one_ (i := 0) (N := some 8) #[true, true, true, true, true, true, true, true, false, false, false] rfl rfl (by kernel_rfl) (by decide) (fun K hK => ?_)
        refine value_ (by rfl) rfl (run_exec_makeSlice rfl rfl rfl (hm0 wn123)) ?_
        refine hK.out _ _ (below_alloc hHeld _) (fun hHeld => ?_)
        clear hK K
        refine norm_ (a' := ?_) ?_ ?_
        rotate_left
        · show Act.put _ (some 8) _ = _
          simp only [Act.put, List.setIfInBounds_toArray, List.set_cons_zero, List.set_cons_succ, i64_w, i32_w]
          rfl
        obtain ⟨wn1230, hw⟩ : ∃ x, wn123.alloc (.cells k0 122) = x := ⟨_, rfl⟩
        obtain ⟨b0, hb⟩ : ∃ x, wn123.heap.size = x := ⟨_, rfl⟩
        have h0 : wn1230.heap[b0]? = some (.cells k0 122 (0, 0)) := by rw [← hw, ← hb]; exact blk_new _ _
        have l0 : w2.heap.size ≤ b0 := by rw [← hb]; exact below_size (by assumption)
        replace h1 : wn1230.heap[b1]? = some (.cells k1 3 (0, 0)) := by rw [← hw]; exact blk_alloc h1 _
        replace h2 : wn1230.heap[b2]? = some (.cells k2 5 (0, 0)) := by rw [← hw]; exact blk_alloc h2 _
        replace h3 : wn1230.heap[b3]? = some (.cells k3 83 (0, 0)) := by rw [← hw]; exact blk_alloc h3 _
        rw [hw] at hHeld ⊢
        rw [hb]
        clear hw hb
        refine pure_ (i := 8) (N := some 16) (v := .agg #[.slice (some ⟨b0, 0, none⟩) 16 16, .slice (some ⟨b1, 0, none⟩) 6 6, .slice (some ⟨b2, 0, none⟩) 64 64, .slice (some ⟨b3, 0, none⟩) 12 12]) (a' := ?_) #[true, true, true, true, true, true, true, true, true, false, false] rfl rfl (by kernel_rfl) (fun _ _ _ h => h) (yields_build (by rfl) 36 #[(0, .tmp 8), (1, .tmp 11), (2, .tmp 12), (3, .tmp 15)] rfl _ #[.slice (some ⟨b0, 0, none⟩) 16 16, .slice (some ⟨b1, 0, none⟩) 6 6, .slice (some ⟨b2, 0, none⟩) 64 64, .slice (some ⟨b3, 0, none⟩) 12 12] (by simp only [List.map_toArray, List.map_cons, List.map_nil]; rfl) (by kernel_rfl)) ?_ ?_
        rotate_left
        · simp only [Act.put, List.setIfInBounds_toArray, List.set_cons_zero, List.set_cons_succ, i64_w, i32_w]
          rfl
        refine last_ (i := 9) (N := none) #[true, true, true, true, true, true, true, true, true, true, false] rfl rfl (by kernel_rfl) (by decide) (fun K hK => ?_)
        have hz := blk_below HX2.out.met hHeld
        refine skip_ (by rfl) rfl (run_exec_store rfl rfl rfl (store_row (W := wn1230) (ty := 36) (cells := #[.slice (some ⟨b0, 0, none⟩) 16 16, .slice (some ⟨b1, 0, none⟩) 6 6, .slice (some ⟨b2, 0, none⟩) 64 64, .slice (some ⟨b3, 0, none⟩) 12 12]) hz (by rw [sz_meta]; rfl) rfl (by simp [Value.oneCell']))) ?_
        refine hK.out _ _ ?_
        clear hK K
        refine pure_ (i := 10) (N := some 3) (v := ?_) (a' := ?_) #[true, true, true, true, true, true, true, true, true, true, true] rfl rfl (by kernel_rfl) (fun _ _ _ h => h) (Or.inl ⟨by rfl, ?_⟩) ?_ ?_
        rotate_left
        · intro w'
          go_simp
          with_reducible rfl
        rotate_left
        · simp only [Act.put, List.setIfInBounds_toArray, List.set_cons_zero, List.set_cons_succ, i64_w, i32_w]
          rfl
        refine done_ (by kernel_rfl) ?_
        go_wp2_with fail
        refine bodyPost_ret (results_cell_tmp rfl _ _ (w.heap.size + 1) 36 #[.slice (some ⟨b0, 0, none⟩) 16 16, .slice (some ⟨b1, 0, none⟩) 6 6, .slice (some ⟨b2, 0, none⟩) 64 64, .slice (some ⟨b3, 0, none⟩) 12 12] (0, 0) _ rfl (setRow_heap wn1230 _ _ _ _ _ hz) Try.underlying36 rfl sz_meta) rfl ?_
        exact new_post HX2.out E.out h0 h1 h2 h3 l0 l1 l2 l3 hHeld _
    · refine value_ (by rfl) rfl (run_exec_makeSlice rfl rfl rfl (hm3 wn1)) ?_
      refine hK.out _ _ (below_alloc hHeld _) (fun hHeld => ?_)
      clear hK K
      refine norm_ (a' := ?_) ?_ ?_
      rotate_left
      · show Act.put _ (some 15) _ = _
        simp only [Act.put, List.setIfInBounds_toArray, List.set_cons_zero, List.set_cons_succ, i64_w, i32_w]
        rfl
      obtain ⟨wn13, hw⟩ : ∃ x, wn1.alloc (.cells k3 83) = x := ⟨_, rfl⟩
      obtain ⟨b3, hb⟩ : ∃ x, wn1.heap.size = x := ⟨_, rfl⟩
      have h3 : wn13.heap[b3]? = some (.cells k3 83 (0, 0)) := by rw [← hw, ← hb]; exact blk_new _ _
      have l3 : w2.heap.size ≤ b3 := by rw [← hb]; exact below_size (by assumption)
      replace h1 : wn13.heap[b1]? = some (.cells k1 3 (0, 0)) := by rw [← hw]; exact blk_alloc h1 _
      rw [hw] at hHeld ⊢
      rw [hb]
      clear hw hb
      refine two_ (i := 0) (j := 4) (Ni := some 8) (Nj := some 12) #[true, true, true, true, false, true, true, true, false, false, false] #[false, true, true, true, true, true, true, true, false, false, false] rfl rfl rfl rfl (by kernel_rfl) (by decide) (by decide) (fun K hK => ?_) (fun K hK => ?_)
      · refine value_ (by rfl) rfl (run_exec_makeSlice rfl rfl rfl (hm0 wn13)) ?_
        refine hK.out _ _ (below_alloc hHeld _) (fun hHeld => ?_)
        clear hK K
        refine norm_ (a' := ?_) ?_ ?_
        rotate_left
        · show Act.put _ (some 8) _ = _
          simp only [Act.put, List.setIfInBounds_toArray, List.set_cons_zero, List.set_cons_succ, i64_w, i32_w]
          rfl
        obtain ⟨wn130, hw⟩ : ∃ x, wn13.alloc (.cells k0 122) = x := ⟨_, rfl⟩
        obtain ⟨b0, hb⟩ : ∃ x, wn13.heap.size = x := ⟨_, rfl⟩
        have h0 : wn130.heap[b0]? = some (.cells k0 122 (0, 0)) := by rw [← hw, ← hb]; exact blk_new _ _
        have l0 : w2.heap.size ≤ b0 := by rw [← hb]; exact below_size (by assumption)
        replace h1 : wn130.heap[b1]? = some (.cells k1 3 (0, 0)) := by rw [← hw]; exact blk_alloc h1 _
        replace h3 : wn130.heap[b3]? = some (.cells k3 83 (0, 0)) := by rw [← hw]; exact blk_alloc h3 _
        rw [hw] at hHeld ⊢
        rw [hb]
        clear hw hb
        refine one_ (i := 4) (N := some 12) #[true, true, true, true, true, true, true, true, false, false, false] rfl rfl (by kernel_rfl) (by decide) (fun K hK => ?_)
        refine value_ (by rfl) rfl (run_exec_makeSlice rfl rfl rfl (hm2 wn130)) ?_
        refine hK.out _ _ (below_alloc hHeld _) (fun hHeld => ?_)
        clear hK K
        refine norm_ (a' := ?_) ?_ ?_
        rotate_left
        · show Act.put _ (some 12) _ = _
          simp only [Act.put, List.setIfInBounds_toArray, List.set_cons_zero, List.set_cons_succ, i64_w, i32_w]
          rfl
        obtain ⟨wn1302, hw⟩ : ∃ x, wn130.alloc (.cells k2 5) = x := ⟨_, rfl⟩
        obtain ⟨b2, hb⟩ : ∃ x, wn130.heap.size = x := ⟨_, rfl⟩
        have h2 : wn1302.heap[b2]? = some (.cells k2 5 (0, 0)) := by rw [← hw, ← hb]; exact blk_new _ _
        have l2 : w2.heap.size ≤ b2 := by rw [← hb]; exact below_size (by assumption)
        replace h1 : wn1302.heap[b1]? = some (.cells k1 3 (0, 0)) := by rw [← hw]; exact blk_alloc h1 _
        replace h3 : wn1302.heap[b3]? = some (.cells k3 83 (0, 0)) := by rw [← hw]; exact blk_alloc h3 _
        replace h0 : wn1302.heap[b0]? = some (.cells k0 122 (0, 0)) := by rw [← hw]; exact blk_alloc h0 _
        rw [hw] at hHeld ⊢
        rw [hb]
        clear hw hb
        refine pure_ (i := 8) (N := some 16) (v := .agg #[.slice (some ⟨b0, 0, none⟩) 16 16, .slice (some ⟨b1, 0, none⟩) 6 6, .slice (some ⟨b2, 0, none⟩) 64 64, .slice (some ⟨b3, 0, none⟩) 12 12]) (a' := ?_) #[true, true, true, true, true, true, true, true, true, false, false] rfl rfl (by kernel_rfl) (fun _ _ _ h => h) (yields_build (by rfl) 36 #[(0, .tmp 8), (1, .tmp 11), (2, .tmp 12), (3, .tmp 15)] rfl _ #[.slice (some ⟨b0, 0, none⟩) 16 16, .slice (some ⟨b1, 0, none⟩) 6 6, .slice (some ⟨b2, 0, none⟩) 64 64, .slice (some ⟨b3, 0, none⟩) 12 12] (by simp only [List.map_toArray, List.map_cons, List.map_nil]; rfl) (by kernel_rfl)) ?_ ?_
        rotate_left
        · simp only [Act.put, List.setIfInBounds_toArray, List.set_cons_zero, List.set_cons_succ, i64_w, i32_w]
          rfl
        refine last_ (i := 9) (N := none) #[true, true, true, true, true, true, true, true, true, true, false] rfl rfl (by kernel_rfl) (by decide) (fun K hK => ?_)
        have hz := blk_below HX2.out.met hHeld
        refine skip_ (by rfl) rfl (run_exec_store rfl rfl rfl (store_row (W := wn1302) (ty := 36) (cells := #[.slice (some ⟨b0, 0, none⟩) 16 16, .slice (some ⟨b1, 0, none⟩) 6 6, .slice (some ⟨b2, 0, none⟩) 64 64, .slice (some ⟨b3, 0, none⟩) 12 12]) hz (by rw [sz_meta]; rfl) rfl (by simp [Value.oneCell']))) ?_
        refine hK.out _ _ ?_
        clear hK K
        refine pure_ (i := 10) (N := some 3) (v := ?_) (a' := ?_) #[true, true, true, true, true, true, true, true, true, true, true] rfl rfl (by kernel_rfl) (fun _ _ _ h => h) (Or.inl ⟨by rfl, ?_⟩) ?_ ?_
        rotate_left
        · intro w'
          go_simp
          with_reducible rfl
        rotate_left
        · simp only [Act.put, List.setIfInBounds_toArray, List.set_cons_zero, List.set_cons_succ, i64_w, i32_w]
          rfl
        refine done_ (by kernel_rfl) ?_
        go_wp2_with fail
        refine bodyPost_ret (results_cell_tmp rfl _ _ (w.heap.size + 1) 36 #[.slice (some ⟨b0, 0, none⟩) 16 16, .slice (some ⟨b1, 0, none⟩) 6 6, .slice (some ⟨b2, 0, none⟩) 64 64, .slice (some ⟨b3, 0, none⟩) 12 12] (0, 0) _ rfl (setRow_heap wn1302 _ _ _ _ _ hz) Try.underlying36 rfl sz_meta) rfl ?_
        exact new_post HX2.out E.out h0 h1 h2 h3 l0 l1 l2 l3 hHeld _
      · refine value_ (by rfl) rfl (run_exec_makeSlice rfl rfl rfl (hm2 wn13)) ?_
        refine hK.out _ _ (below_alloc hHeld _) (fun hHeld => ?_)
        clear hK K
        refine norm_ (a' := ?_) ?_ ?_
        rotate_left
        · show Act.put _ (some 12) _ = _
          simp only [Act.put, List.setIfInBounds_toArray, List.set_cons_zero, List.set_cons_succ, i64_w, i32_w]
          rfl
        obtain ⟨wn132, hw⟩ : ∃ x, wn13.alloc (.cells k2 5) = x := ⟨_, rfl⟩
        obtain ⟨b2, hb⟩ : ∃ x, wn13.heap.size = x := ⟨_, rfl⟩
        have h2 : wn132.heap[b2]? = some (.cells k2 5 (0, 0)) := by rw [← hw, ← hb]; exact blk_new _ _
        have l2 : w2.heap.size ≤ b2 := by rw [← hb]; exact below_size (by assumption)
        replace h1 : wn132.heap[b1]? = some (.cells k1 3 (0, 0)) := by rw [← hw]; exact blk_alloc h1 _
        replace h3 : wn132.heap[b3]? = some (.cells k3 83 (0, 0)) := by rw [← hw]; exact blk_alloc h3 _
        rw [hw] at hHeld ⊢
        rw [hb]
        clear hw hb
        refine one_ (i := 0) (N := some 8) #[true, true, true, true, true, true, true, true, false, false, false] rfl rfl (by kernel_rfl) (by decide) (fun K hK => ?_)
        refine value_ (by rfl) rfl (run_exec_makeSlice rfl rfl rfl (hm0 wn132)) ?_
        refine hK.out _ _ (below_alloc hHeld _) (fun hHeld => ?_)
        clear hK K
        refine norm_ (a' := ?_) ?_ ?_
        rotate_left
        · show Act.put _ (some 8) _ = _
          simp only [Act.put, List.setIfInBounds_toArray, List.set_cons_zero, List.set_cons_succ, i64_w, i32_w]
          rfl
        obtain ⟨wn1320, hw⟩ : ∃ x, wn132.alloc (.cells k0 122) = x := ⟨_, rfl⟩
        obtain ⟨b0, hb⟩ : ∃ x, wn132.heap.size = x := ⟨_, rfl⟩
        have h0 : wn1320.heap[b0]? = some (.cells k0 122 (0, 0)) := by rw [← hw, ← hb]; exact blk_new _ _
        have l0 : w2.heap.size ≤ b0 := by rw [← hb]; exact below_size (by assumption)
        replace h1 : wn1320.heap[b1]? = some (.cells k1 3 (0, 0)) := by rw [← hw]; exact blk_alloc h1 _
        replace h3 : wn1320.heap[b3]? = some (.cells k3 83 (0, 0)) := by rw [← hw]; exact blk_alloc h3 _
        replace h2 : wn1320.heap[b2]? = some (.cells k2 5 (0, 0)) := by rw [← hw]; exact blk_alloc h2 _
        rw [hw] at hHeld ⊢
        rw [hb]
        clear hw hb
        refine pure_ (i := 8) (N := some 16) (v := .agg #[.slice (some ⟨b0, 0, none⟩) 16 16, .slice (some ⟨b1, 0, none⟩) 6 6, .slice (some ⟨b2, 0, none⟩) 64 64, .slice (some ⟨b3, 0, none⟩) 12 12]) (a' := ?_) #[true, true, true, true, true, true, true, true, true, false, false] rfl rfl (by kernel_rfl) (fun _ _ _ h => h) (yields_build (by rfl) 36 #[(0, .tmp 8), (1, .tmp 11), (2, .tmp 12), (3, .tmp 15)] rfl _ #[.slice (some ⟨b0, 0, none⟩) 16 16, .slice (some ⟨b1, 0, none⟩) 6 6, .slice (some ⟨b2, 0, none⟩) 64 64, .slice (some ⟨b3, 0, none⟩) 12 12] (by simp only [List.map_toArray, List.map_cons, List.map_nil]; rfl) (by kernel_rfl)) ?_ ?_
        rotate_left
        · simp only [Act.put, List.setIfInBounds_toArray, List.set_cons_zero, List.set_cons_succ, i64_w, i32_w]
          rfl
        refine last_ (i := 9) (N := none) #[true, true, true, true, true, true, true, true, true, true, false] rfl rfl (by kernel_rfl) (by decide) (fun K hK => ?_)
        have hz := blk_below HX2.out.met hHeld
        refine skip_ (by rfl) rfl (run_exec_store rfl rfl rfl (store_row (W := wn1320) (ty := 36) (cells := #[.slice (some ⟨b0, 0, none⟩) 16 16, .slice (some ⟨b1, 0, none⟩) 6 6, .slice (some ⟨b2, 0, none⟩) 64 64, .slice (some ⟨b3, 0, none⟩) 12 12]) hz (by rw [sz_meta]; rfl) rfl (by simp [Value.oneCell']))) ?_
        refine hK.out _ _ ?_
        clear hK K
        refine pure_ (i := 10) (N := some 3) (v := ?_) (a' := ?_) #[true, true, true, true, true, true, true, true, true, true, true] rfl rfl (by kernel_rfl) (fun _ _ _ h => h) (Or.inl ⟨by rfl, ?_⟩) ?_ ?_
        rotate_left
        · intro w'
          go_simp
          with_reducible rfl
        rotate_left
        · simp only [Act.put, List.setIfInBounds_toArray, List.set_cons_zero, List.set_cons_succ, i64_w, i32_w]
          rfl
        refine done_ (by kernel_rfl) ?_
        go_wp2_with fail
        refine bodyPost_ret (results_cell_tmp rfl _ _ (w.heap.size + 1) 36 #[.slice (some ⟨b0, 0, none⟩) 16 16, .slice (some ⟨b1, 0, none⟩) 6 6, .slice (some ⟨b2, 0, none⟩) 64 64, .slice (some ⟨b3, 0, none⟩) 12 12] (0, 0) _ rfl (setRow_heap wn1320 _ _ _ _ _ hz) Try.underlying36 rfl sz_meta) rfl ?_
        exact new_post HX2.out E.out h0 h1 h2 h3 l0 l1 l2 l3 hHeld _
  · refine value_ (by rfl) rfl (run_exec_makeSlice rfl rfl rfl (hm2 w2.drew)) ?_
    refine hK.out _ _ (below_alloc hHeld _) (fun hHeld => ?_)
    clear hK K
    refine norm_ (a' := ?_) ?_ ?_
    rotate_left
    · show Act.put _ (some 12) _ = _
      simp only [Act.put, List.setIfInBounds_toArray, List.set_cons_zero, List.set_cons_succ, i64_w, i32_w]
      rfl
    obtain ⟨wn2, hw⟩ : ∃ x, w2.drew.alloc (.cells k2 5) = x := ⟨_, rfl⟩
    obtain ⟨b2, hb⟩ : ∃ x, w2.drew.heap.size = x := ⟨_, rfl⟩
    have h2 : wn2.heap[b2]? = some (.cells k2 5 (0, 0)) := by rw [← hw, ← hb]; exact blk_new _ _
    have l2 : w2.heap.size ≤ b2 := by rw [← hb]; exact below_size (by assumption)
    rw [hw] at hHeld ⊢
    rw [hb]
    clear hw hb
    refine three_ (i := 0) (j := 3) (k := 7) (Ni := some 8) (Nj := some 11) (Nk := some 15) #[true, true, true, false, true, true, true, false, false, false, false] #[false, true, true, true, true, true, true, false, false, false, false] #[false, true, true, false, true, true, true, true, false, false, false] rfl rfl rfl rfl rfl rfl (by kernel_rfl) (by decide) (by decide) (by decide) (fun K hK => ?_) (fun K hK => ?_) (fun K hK => ?_)
    · refine value_ (by rfl) rfl (run_exec_makeSlice rfl rfl rfl (hm0 wn2)) ?_
      refine hK.out _ _ (below_alloc hHeld _) (fun hHeld => ?_)
      clear hK K
      refine norm_ (a' := ?_) ?_ ?_
      rotate_left
      · show Act.put _ (some 8) _ = _
        simp only [Act.put, List.setIfInBounds_toArray, List.set_cons_zero, List.set_cons_succ, i64_w, i32_w]
        rfl
      obtain ⟨wn20, hw⟩ : ∃ x, wn2.alloc (.cells k0 122) = x := ⟨_, rfl⟩
      obtain ⟨b0, hb⟩ : ∃ x, wn2.heap.size = x := ⟨_, rfl⟩
      have h0 : wn20.heap[b0]? = some (.cells k0 122 (0, 0)) := by rw [← hw, ← hb]; exact blk_new _ _
      have l0 : w2.heap.size ≤ b0 := by rw [← hb]; exact below_size (by assumption)
      replace h2 : wn20.heap[b2]? = some (.cells k2 5 (0, 0)) := by rw [← hw]; exact blk_alloc h2 _
      rw [hw] at hHeld ⊢
      rw [hb]
      clear hw hb
      refine two_ (i := 3) (j := 7) (Ni := some 11) (Nj := some 15) #[true, true, true, true, true, true, true, false, false, false, false] #[true, true, true, false, true, true, true, true, false, false, false] rfl rfl rfl rfl (by kernel_rfl) (by decide) (by decide) (fun K hK => ?_) (fun K hK => ?_)
      · refine value_ (by rfl) rfl (run_exec_makeSlice rfl rfl rfl (hm1 wn20)) ?_
        refine hK.out _ _ (below_alloc hHeld _) (fun hHeld => ?_)
        clear hK K
        refine norm_ (a' := ?_) ?_ ?_
        rotate_left
        · show Act.put _ (some 11) _ = _
          simp only [Act.put, List.setIfInBounds_toArray, List.set_cons_zero, List.set_cons_succ, i64_w, i32_w]
          rfl
        obtain ⟨wn201, hw⟩ : ∃ x, wn20.alloc (.cells k1 3) = x := ⟨_, rfl⟩
        obtain ⟨b1, hb⟩ : ∃ x, wn20.heap.size = x := ⟨_, rfl⟩
        have h1 : wn201.heap[b1]? = some (.cells k1 3 (0, 0)) := by rw [← hw, ← hb]; exact blk_new _ _
        have l1 : w2.heap.size ≤ b1 := by rw [← hb]; exact below_size (by assumption)
        replace h2 : wn201.heap[b2]? = some (.cells k2 5 (0, 0)) := by rw [← hw]; exact blk_alloc h2 _
        replace h0 : wn201.heap[b0]? = some (.cells k0 122 (0, 0)) := by rw [← hw]; exact blk_alloc h0 _
        rw [hw] at hHeld ⊢
        rw [hb]
        clear hw hb
        refine one_ (i := 7) (N := some 15) #[true, true, true, true, true, true, true, true, false, false, false] rfl rfl (by kernel_rfl) (by decide) (fun K hK => ?_)
        refine value_ (by rfl) rfl (run_exec_makeSlice rfl rfl rfl (hm3 wn201)) ?_
        refine hK.out _ _ (below_alloc hHeld _) (fun hHeld => ?_)
        clear hK K
        refine norm_ (a' := ?_) ?_ ?_
        rotate_left
        · show Act.put _ (some 15) _ = _
          simp only [Act.put, List.setIfInBounds_toArray, List.set_cons_zero, List.set_cons_succ, i64_w, i32_w]
          rfl
        obtain ⟨wn2013, hw⟩ : ∃ x, wn201.alloc (.cells k3 83) = x := ⟨_, rfl⟩
        obtain ⟨b3, hb⟩ : ∃ x, wn201.heap.size = x := ⟨_, rfl⟩
        have h3 : wn2013.heap[b3]? = some (.cells k3 83 (0, 0)) := by rw [← hw, ← hb]; exact blk_new _ _
        have l3 : w2.heap.size ≤ b3 := by rw [← hb]; exact below_size (by assumption)
        replace h2 : wn2013.heap[b2]? = some (.cells k2 5 (0, 0)) := by rw [← hw]; exact blk_alloc h2 _
        replace h0 : wn2013.heap[b0]? = some (.cells k0 122 (0, 0)) := by rw [← hw]; exact blk_alloc h0 _
        replace h1 : wn2013.heap[b1]? = some (.cells k1 3 (0, 0)) := by rw [← hw]; exact blk_alloc h1 _
        rw [hw] at hHeld ⊢
        rw [hb]
        clear hw hb
        refine pure_ (i := 8) (N := some 16) (v := .agg #[.slice (some ⟨b0, 0, none⟩) 16 16, .slice (some ⟨b1, 0, none⟩) 6 6, .slice (some ⟨b2, 0, none⟩) 64 64, .slice (some ⟨b3, 0, none⟩) 12 12]) (a' := ?_) #[true, true, true, true, true, true, true, true, true, false, false] rfl rfl (by kernel_rfl) (fun _ _ _ h => h) (yields_build (by rfl) 36 #[(0, .tmp 8), (1, .tmp 11), (2, .tmp 12), (3, .tmp 15)] rfl _ #[.slice (some ⟨b0, 0, none⟩) 16 16, .slice (some ⟨b1, 0, none⟩) 6 6, .slice (some ⟨b2, 0, none⟩) 64 64, .slice (some ⟨b3, 0, none⟩) 12 12] (by simp only [List.map_toArray, List.map_cons, List.map_nil]; rfl) (by kernel_rfl)) ?_ ?_
        rotate_left
        · simp only [Act.put, List.setIfInBounds_toArray, List.set_cons_zero, List.set_cons_succ, i64_w, i32_w]
          rfl
        refine last_ (i := 9) (N := none) #[true, true, true, true, true, true, true, true, true, true, false] rfl rfl (by kernel_rfl) (by decide) (fun K hK => ?_)
        have hz := blk_below HX2.out.met hHeld
        refine skip_ (by rfl) rfl (run_exec_store rfl rfl rfl (store_row (W := wn2013) (ty := 36) (cells := #[.slice (some ⟨b0, 0, none⟩) 16 16, .slice (some ⟨b1, 0, none⟩) 6 6, .slice (some ⟨b2, 0, none⟩) 64 64, .slice (some ⟨b3, 0, none⟩) 12 12]) hz (by rw [sz_meta]; rfl) rfl (by simp [Value.oneCell']))) ?_
        refine hK.out _ _ ?_
        clear hK K
        refine pure_ (i := 10) (N := some 3) (v := ?_) (a' := ?_) #[true, true, true, true, true, true, true, true, true, true, true] rfl rfl (by kernel_rfl) (fun _ _ _ h => h) (Or.inl ⟨by rfl, ?_⟩) ?_ ?_
        rotate_left
        · intro w'
          go_simp
          with_reducible rfl
        rotate_left
        · simp only [Act.put, List.setIfInBounds_toArray, List.set_cons_zero, List.set_cons_succ, i64_w, i32_w]
          rfl
        refine done_ (by kernel_rfl) ?_
        go_wp2_with fail
        refine bodyPost_ret (results_cell_tmp rfl _ _ (w.heap.size + 1) 36 #[.slice (some ⟨b0, 0, none⟩) 16 16, .slice (some ⟨b1, 0, none⟩) 6 6, .slice (some ⟨b2, 0, none⟩) 64 64, .slice (some ⟨b3, 0, none⟩) 12 12] (0, 0) _ rfl (setRow_heap wn2013 _ _ _ _ _ hz) Try.underlying36 rfl sz_meta) rfl ?_
        exact new_post HX2.out E.out h0 h1 h2 h3 l0 l1 l2 l3 hHeld _
      · refine value_ (by rfl) rfl (run_exec_makeSlice rfl rfl rfl (hm3 wn20)) ?_
        refine hK.out _ _ (below_alloc hHeld _) (fun hHeld => ?_)
        clear hK K
        refine norm_ (a' := ?_) ?_ ?_
        rotate_left
        · show Act.put _ (some 15) _ = _
          simp only [Act.put, List.setIfInBounds_toArray, List.set_cons_zero, List.set_cons_succ, i64_w, i32_w]
          rfl
        obtain ⟨wn203, hw⟩ : ∃ x, wn20.alloc (.cells k3 83) = x := ⟨_, rfl⟩
        obtain ⟨b3, hb⟩ : ∃ x, wn20.heap.size = x := ⟨_, rfl⟩
        have h3 : wn203.heap[b3]? = some (.cells k3 83 (0, 0)) := by rw [← hw, ← hb]; exact blk_new _ _
        have l3 : w2.heap.size ≤ b3 := by rw [← hb]; exact below_size (by assumption)
        replace h2 : wn203.heap[b2]? = some (.cells k2 5 (0, 0)) := by rw [← hw]; exact blk_alloc h2 _
        replace h0 : wn203.heap[b0]? = some (.cells k0 122 (0, 0)) := by rw [← hw]; exact blk_alloc h0 _
        rw [hw] at hHeld ⊢
        rw [hb]
        clear hw hb
        refine one_ (i := 3) (N := some 11) #[true, true, true, true, true, true, true, true, false, false, false] rfl rfl (by kernel_rfl) (by decide) (fun K hK => ?_)
        refine value_ (by rfl) rfl (run_exec_makeSlice rfl rfl rfl (hm1 wn203)) ?_
        refine hK.out _ _ (below_alloc hHeld _) (fun hHeld => ?_)
        clear hK K
        refine norm_ (a' := ?_) ?_ ?_
        rotate_left
        · show Act.put _ (some 11) _ = _
          simp only [Act.put, List.setIfInBounds_toArray, List.set_cons_zero, List.set_cons_succ, i64_w, i32_w]
          rfl
        obtain ⟨wn2031, hw⟩ : ∃ x, wn203.alloc (.cells k1 3) = x := ⟨_, rfl⟩
        obtain ⟨b1, hb⟩ : ∃ x, wn203.heap.size = x := ⟨_, rfl⟩
        have h1 : wn2031.heap[b1]? = some (.cells k1 3 (0, 0)) := by rw [← hw, ← hb]; exact blk_new _ _
        have l1 : w2.heap.size ≤ b1 := by rw [← hb]; exact below_size (by assumption)
        replace h2 : wn2031.heap[b2]? = some (.cells k2 5 (0, 0)) := by rw [← hw]; exact blk_alloc h2 _
        replace h0 : wn2031.heap[b0]? = some (.cells k0 122 (0, 0)) := by rw [← hw]; exact blk_alloc h0 _
        replace h3 : wn2031.heap[b3]? = some (.cells k3 83 (0, 0)) := by rw [← hw]; exact blk_alloc h3 _
        rw [hw] at hHeld ⊢
        rw [hb]
        clear hw hb
        refine pure_ (i := 8) (N := some 16) (v := .agg #[.slice (some ⟨b0, 0, none⟩) 16 16, .slice (some ⟨b1, 0, none⟩) 6 6, .slice (some ⟨b2, 0, none⟩) 64 64, .slice (some ⟨b3, 0, none⟩) 12 12]) (a' := ?_) #[true, true, true, true, true, true, true, true, true, false, false] rfl rfl (by kernel_rfl) (fun _ _ _ h => h) (yields_build (by rfl) 36 #[(0, .tmp 8), (1, .tmp 11), (2, .tmp 12), (3, .tmp 15)] rfl _ #[.slice (some ⟨b0, 0, none⟩) 16 16, .slice (some ⟨b1, 0, none⟩) 6 6, .slice (some ⟨b2, 0, none⟩) 64 64, .slice (some ⟨b3, 0, none⟩) 12 12] (by simp only [List.map_toArray, List.map_cons, List.map_nil]; rfl) (by kernel_rfl)) ?_ ?_
        rotate_left
        · simp only [Act.put, List.setIfInBounds_toArray, List.set_cons_zero, List.set_cons_succ, i64_w, i32_w]
          rfl
        refine last_ (i := 9) (N := none) #[true, true, true, true, true, true, true, true, true, true, false] rfl rfl (by kernel_rfl) (by decide) (fun K hK => ?_)
        have hz := blk_below HX2.out.met hHeld
        refine skip_ (by rfl) rfl (run_exec_store rfl rfl rfl (store_row (W := wn2031) (ty := 36) (cells := #[.slice (some ⟨b0, 0, none⟩) 16 16, .slice (some ⟨b1, 0, none⟩) 6 6, .slice (some ⟨b2, 0, none⟩) 64 64, .slice (some ⟨b3, 0, none⟩) 12 12]) hz (by rw [sz_meta]; rfl) rfl (by simp [Value.oneCell']))) ?_
        refine hK.out _ _ ?_
        clear hK K
        refine pure_ (i := 10) (N := some 3) (v := ?_) (a' := ?_) #[true, true, true, true, true, true, true, true, true, true, true] rfl rfl (by kernel_rfl) (fun _ _ _ h => h) (Or.inl ⟨by rfl, ?_⟩) ?_ ?_
        rotate_left
        · intro w'
          go_simp
          with_reducible rfl
        rotate_left
        · simp only [Act.put, List.setIfInBounds_toArray, List.set_cons_zero, List.set_cons_succ, i64_w, i32_w]
          rfl
        refine done_ (by kernel_rfl) ?_
        go_wp2_with fail
        refine bodyPost_ret (results_cell_tmp rfl _ _ (w.heap.size + 1) 36 #[.slice (some ⟨b0, 0, none⟩) 16 16, .slice (some ⟨b1, 0, none⟩) 6 6, .slice (some ⟨b2, 0, none⟩) 64 64, .slice (some ⟨b3, 0, none⟩) 12 12] (0, 0) _ rfl (setRow_heap wn2031 _ _ _ _ _ hz) Try.underlying36 rfl sz_meta) rfl ?_
        exact new_post HX2.out E.out h0 h1 h2 h3 l0 l1 l2 l3 hHeld _
    · refine value_ (by rfl) rfl (run_exec_makeSlice rfl rfl rfl (hm1 wn2)) ?_
      refine hK.out _ _ (below_alloc hHeld _) (fun hHeld => ?_)
      clear hK K
      refine norm_ (a' := ?_) ?_ ?_
      rotate_left
      · show Act.put _ (some 11) _ = _
        simp only [Act.put, List.setIfInBounds_toArray, List.set_cons_zero, List.set_cons_succ, i64_w, i32_w]
        rfl
      obtain ⟨wn21, hw⟩ : ∃ x, wn2.alloc (.cells k1 3) = x := ⟨_, rfl⟩
      obtain ⟨b1, hb⟩ : ∃ x, wn2.heap.size = x := ⟨_, rfl⟩
      have h1 : wn21.heap[b1]? = some (.cells k1 3 (0, 0)) := by rw [← hw, ← hb]; exact blk_new _ _
      have l1 : w2.heap.size ≤ b1 := by rw [← hb]; exact below_size (by assumption)
      replace h2 : wn21.heap[b2]? = some (.cells k2 5 (0, 0)) := by rw [← hw]; exact blk_alloc h2 _
      rw [hw] at hHeld ⊢
      rw [hb]
      clear hw hb
      refine two_ (i := 0) (j := 7) (Ni := some 8) (Nj := some 15) #[true, true, true, true, true, true, true, false, false, false, false] #[false, true, true, true, true, true, true, true, false, false, false] rfl rfl rfl rfl (by kernel_rfl) (by decide) (by decide) (fun K hK => ?_) (fun K hK => ?_)
      · refine value_ (by rfl) rfl (run_exec_makeSlice rfl rfl rfl (hm0 wn21)) ?_
        refine hK.out _ _ (below_alloc hHeld _) (fun hHeld => ?_)
        clear hK K
        refine norm_ (a' := ?_) ?_ ?_
        rotate_left
        · show Act.put _ (some 8) _ = _
          simp only [Act.put, List.setIfInBounds_toArray, List.set_cons_zero, List.set_cons_succ, i64_w, i32_w]
          rfl
        obtain ⟨wn210, hw⟩ : ∃ x, wn21.alloc (.cells k0 122) = x := ⟨_, rfl⟩
        obtain ⟨b0, hb⟩ : ∃ x, wn21.heap.size = x := ⟨_, rfl⟩
        have h0 : wn210.heap[b0]? = some (.cells k0 122 (0, 0)) := by rw [← hw, ← hb]; exact blk_new _ _
        have l0 : w2.heap.size ≤ b0 := by rw [← hb]; exact below_size (by assumption)
        replace h2 : wn210.heap[b2]? = some (.cells k2 5 (0, 0)) := by rw [← hw]; exact blk_alloc h2 _
        replace h1 : wn210.heap[b1]? = some (.cells k1 3 (0, 0)) := by rw [← hw]; exact blk_alloc h1 _
        rw [hw] at hHeld ⊢
        rw [hb]
        clear hw hb
        refine one_ (i := 7) (N := some 15) #[true, true, true, true, true, true, true, true, false, false, false] rfl rfl (by kernel_rfl) (by decide) (fun K hK => ?_)
        refine value_ (by rfl) rfl (run_exec_makeSlice rfl rfl rfl (hm3 wn210)) ?_
        refine hK.out _ _ (below_alloc hHeld _) (fun hHeld => ?_)
        clear hK K
        refine norm_ (a' := ?_) ?_ ?_
        rotate_left
        · show Act.put _ (some 15) _ = _
          simp only [Act.put, List.setIfInBounds_toArray, List.set_cons_zero, List.set_cons_succ, i64_w, i32_w]
          rfl
        obtain ⟨wn2103, hw⟩ : ∃ x, wn210.alloc (.cells k3 83) = x := ⟨_, rfl⟩
        obtain ⟨b3, hb⟩ : ∃ x, wn210.heap.size = x := ⟨_, rfl⟩
        have h3 : wn2103.heap[b3]? = some (.cells k3 83 (0, 0)) := by rw [← hw, ← hb]; exact blk_new _ _
        have l3 : w2.heap.size ≤ b3 := by rw [← hb]; exact below_size (by assumption)
        replace h2 : wn2103.heap[b2]? = some (.cells k2 5 (0, 0)) := by rw [← hw]; exact blk_alloc h2 _
        replace h1 : wn2103.heap[b1]? = some (.cells k1 3 (0, 0)) := by rw [← hw]; exact blk_alloc h1 _
        replace h0 : wn2103.heap[b0]? = some (.cells k0 122 (0, 0)) := by rw [← hw]; exact blk_alloc h0 _
        rw [hw] at hHeld ⊢
        rw [hb]
        clear hw hb
        refine pure_ (i := 8) (N := some 16) (v := .agg #[.slice (some ⟨b0, 0, none⟩) 16 16, .slice (some ⟨b1, 0, none⟩) 6 6, .slice (some ⟨b2, 0, none⟩) 64 64, .slice (some ⟨b3, 0, none⟩) 12 12]) (a' := ?_) #[true, true, true, true, true, true, true, true, true, false, false] rfl rfl (by kernel_rfl) (fun _ _ _ h => h) (yields_build (by rfl) 36 #[(0, .tmp 8), (1, .tmp 11), (2, .tmp 12), (3, .tmp 15)] rfl _ #[.slice (some ⟨b0, 0, none⟩) 16 16, .slice (some ⟨b1, 0, none⟩) 6 6, .slice (some ⟨b2, 0, none⟩) 64 64, .slice (some ⟨b3, 0, none⟩) 12 12] (by simp only [List.map_toArray, List.map_cons, List.map_nil]; rfl) (by kernel_rfl)) ?_ ?_
        rotate_left
        · simp only [Act.put, List.setIfInBounds_toArray, List.set_cons_zero, List.set_cons_succ, i64_w, i32_w]
          rfl
        refine last_ (i := 9) (N := none) #[true, true, true, true, true, true, true, true, true, true, false] rfl rfl (by kernel_rfl) (by decide) (fun K hK => ?_)
        have hz := blk_below HX2.out.met hHeld
        refine skip_ (by rfl) rfl (run_exec_store rfl rfl rfl (store_row (W := wn2103) (ty := 36) (cells := #[.slice (some ⟨b0, 0, none⟩) 16 16, .slice (some ⟨b1, 0, none⟩) 6 6, .slice (some ⟨b2, 0, none⟩) 64 64, .slice (some ⟨b3, 0, none⟩) 12 12]) hz (by rw [sz_meta]; rfl) rfl (by simp [Value.oneCell']))) ?_
        refine hK.out _ _ ?_
        clear hK K
        refine pure_ (i := 10) (N := some 3) (v := ?_) (a' := ?_) #[true, true, true, true, true, true, true, true, true, true, true] rfl rfl (by kernel_rfl) (fun _ _ _ h => h) (Or.inl ⟨by rfl, ?_⟩) ?_ ?_
        rotate_left
        · intro w'
          go_simp
          with_reducible rfl
        rotate_left
        · simp only [Act.put, List.setIfInBounds_toArray, List.set_cons_zero, List.set_cons_succ, i64_w, i32_w]
          rfl
        refine done_ (by kernel_rfl) ?_
        go_wp2_with fail
        refine bodyPost_ret (results_cell_tmp rfl _ _ (w.heap.size + 1) 36 #[.slice (some ⟨b0, 0, none⟩) 16 16, .slice (some ⟨b1, 0, none⟩) 6 6, .slice (some ⟨b2, 0, none⟩) 64 64, .slice (some ⟨b3, 0, none⟩) 12 12] (0, 0) _ rfl (setRow_heap wn2103 _ _ _ _ _ hz) Try.underlying36 rfl sz_meta) rfl ?_
        exact new_post HX2.out E.out h0 h1 h2 h3 l0 l1 l2 l3 hHeld _
      · refine value_ (by rfl) rfl (run_exec_makeSlice rfl rfl rfl (hm3 wn21)) ?_
        refine hK.out _ _ (below_alloc hHeld _) (fun hHeld => ?_)
        clear hK K
        refine norm_ (a' := ?_) ?_ ?_
        rotate_left
        · show Act.put _ (some 15) _ = _
          simp only [Act.put, List.setIfInBounds_toArray, List.set_cons_zero, List.set_cons_succ, i64_w, i32_w]
          rfl
        obtain ⟨wn213, hw⟩ : ∃ x, wn21.alloc (.cells k3 83) = x := ⟨_, rfl⟩
        obtain ⟨b3, hb⟩ : ∃ x, wn21.heap.size = x := ⟨_, rfl⟩
        have h3 : wn213.heap[b3]? = some (.cells k3 83 (0, 0)) := by rw [← hw, ← hb]; exact blk_new _ _
        have l3 : w2.heap.size ≤ b3 := by rw [← hb]; exact below_size (by assumption)
        replace h2 : wn213.heap[b2]? = some (.cells k2 5 (0, 0)) := by rw [← hw]; exact blk_alloc h2 _
        replace h1 : wn213.heap[b1]? = some (.cells k1 3 (0, 0)) := by rw [← hw]; exact blk_alloc h1 _
        rw [hw] at hHeld ⊢
        rw [hb]
        clear hw hb
        refine one_ (i := 0) (N := some 8) #[true, true, true, true, true, true, true, true, false, false, false] rfl rfl (by kernel_rfl) (by decide) (fun K hK => ?_)
        refine value_ (by rfl) rfl (run_exec_makeSlice rfl rfl rfl (hm0 wn213)) ?_
        refine hK.out _ _ (below_alloc hHeld _) (fun hHeld => ?_)
        clear hK K
        refine norm_ (a' := ?_) ?_ ?_
        rotate_left
        · show Act.put _ (some 8) _ = _
          simp only [Act.put, List.setIfInBounds_toArray, List.set_cons_zero, List.set_cons_succ, i64_w, i32_w]
          rfl
        obtain ⟨wn2130, hw⟩ : ∃ x, wn213.alloc (.cells k0 122) = x := ⟨_, rfl⟩
        obtain ⟨b0, hb⟩ : ∃ x, wn213.heap.size = x := ⟨_, rfl⟩
        have h0 : wn2130.heap[b0]? = some (.cells k0 122 (0, 0)) := by rw [← hw, ← hb]; exact blk_new _ _
        have l0 : w2.heap.size ≤ b0 := by rw [← hb]; exact below_size (by assumption)
        replace h2 : wn2130.heap[b2]? = some (.cells k2 5 (0, 0)) := by rw [← hw]; exact blk_alloc h2 _
        replace h1 : wn2130.heap[b1]? = some (.cells k1 3 (0, 0)) := by rw [← hw]; exact blk_alloc h1 _
        replace h3 : wn2130.heap[b3]? = some (.cells k3 83 (0, 0)) := by rw [← hw]; exact blk_alloc h3 _
        rw [hw] at hHeld ⊢
        rw [hb]
        clear hw hb
        refine pure_ (i := 8) (N := some 16) (v := .agg #[.slice (some ⟨b0, 0, none⟩) 16 16, .slice (some ⟨b1, 0, none⟩) 6 6, .slice (some ⟨b2, 0, none⟩) 64 64, .slice (some ⟨b3, 0, none⟩) 12 12]) (a' := ?_) #[true, true, true, true, true, true, true, true, true, false, false] rfl rfl (by kernel_rfl) (fun _ _ _ h => h) (yields_build (by rfl) 36 #[(0, .tmp 8), (1, .tmp 11), (2, .tmp 12), (3, .tmp 15)] rfl _ #[.slice (some ⟨b0, 0, none⟩) 16 16, .slice (some ⟨b1, 0, none⟩) 6 6, .slice (some ⟨b2, 0, none⟩) 64 64, .slice (some ⟨b3, 0, none⟩) 12 12] (by simp only [List.map_toArray, List.map_cons, List.map_nil]; rfl) (by kernel_rfl)) ?_ ?_
        rotate_left
        · simp only [Act.put, List.setIfInBounds_toArray, List.set_cons_zero, List.set_cons_succ, i64_w, i32_w]
          rfl
        refine last_ (i := 9) (N := none) #[true, true, true, true, true, true, true, true, true, true, false] rfl rfl (by kernel_rfl) (by decide) (fun K hK => ?_)
        have hz := blk_below HX2.out.met hHeld
        refine skip_ (by rfl) rfl (run_exec_store rfl rfl rfl (store_row (W := wn2130) (ty := 36) (cells := #[.slice (some ⟨b0, 0, none⟩) 16 16, .slice (some ⟨b1, 0, none⟩) 6 6, .slice (some ⟨b2, 0, none⟩) 64 64, .slice (some ⟨b3, 0, none⟩) 12 12]) hz (by rw [sz_meta]; rfl) rfl (by simp [Value.oneCell']))) ?_
        refine hK.out _ _ ?_
        clear hK K
        refine pure_ (i := 10) (N := some 3) (v := ?_) (a' := ?_) #[true, true, true, true, true, true, true, true, true, true, true] rfl rfl (by kernel_rfl) (fun _ _ _ h => h) (Or.inl ⟨by rfl, ?_⟩) ?_ ?_
        rotate_left
        · intro w'
          go_simp
          with_reducible rfl
        rotate_left
        · simp only [Act.put, List.setIfInBounds_toArray, List.set_cons_zero, List.set_cons_succ, i64_w, i32_w]
          rfl
        refine done_ (by kernel_rfl) ?_
        go_wp2_with fail
        refine bodyPost_ret (results_cell_tmp rfl _ _ (w.heap.size + 1) 36 #[.slice (some ⟨b0, 0, none⟩) 16 16, .slice (some ⟨b1, 0, none⟩) 6 6, .slice (some ⟨b2, 0, none⟩) 64 64, .slice (some ⟨b3, 0, none⟩) 12 12] (0, 0) _ rfl (setRow_heap wn2130 _ _ _ _ _ hz) Try.underlying36 rfl sz_meta) rfl ?_
        exact new_post HX2.out E.out h0 h1 h2 h3 l0 l1 l2 l3 hHeld _
    · refine value_ (by rfl) rfl (run_exec_makeSlice rfl rfl rfl (hm3 wn2)) ?_
      refine hK.out _ _ (below_alloc hHeld _) (fun hHeld => ?_)
      clear hK K
      refine norm_ (a' := ?_) ?_ ?_
      rotate_left
      · show Act.put _ (some 15) _ = _
        simp only [Act.put, List.setIfInBounds_toArray, List.set_cons_zero, List.set_cons_succ, i64_w, i32_w]
        rfl
      obtain ⟨wn23, hw⟩ : ∃ x, wn2.alloc (.cells k3 83) = x := ⟨_, rfl⟩
      obtain ⟨b3, hb⟩ : ∃ x, wn2.heap.size = x := ⟨_, rfl⟩
      have h3 : wn23.heap[b3]? = some (.cells k3 83 (0, 0)) := by rw [← hw, ← hb]; exact blk_new _ _
      have l3 : w2.heap.size ≤ b3 := by rw [← hb]; exact below_size (by assumption)
      replace h2 : wn23.heap[b2]? = some (.cells k2 5 (0, 0)) := by rw [← hw]; exact blk_alloc h2 _
      rw [hw] at hHeld ⊢
      rw [hb]
      clear hw hb
      refine two_ (i := 0) (j := 3) (Ni := some 8) (Nj := some 11) #[true, true, true, false, true, true, true, true, false, false, false] #[false, true, true, true, true, true, true, true, false, false, false] rfl rfl rfl rfl (by kernel_rfl) (by decide) (by decide) (fun K hK => ?_) (fun K hK => ?_)
      · refine value_ (by rfl) rfl (run_exec_makeSlice rfl rfl rfl (hm0 wn23)) ?_
        refine hK.out _ _ (below_alloc hHeld _) (fun hHeld => ?_)
        clear hK K
        refine norm_ (a' := ?_) ?_ ?_
        rotate_left
        · show Act.put _ (some 8) _ = _
          simp only [Act.put, List.setIfInBounds_toArray, List.set_cons_zero, List.set_cons_succ, i64_w, i32_w]
          rfl
        obtain ⟨wn230, hw⟩ : ∃ x, wn23.alloc (.cells k0 122) = x := ⟨_, rfl⟩
        obtain ⟨b0, hb⟩ : ∃ x, wn23.heap.size = x := ⟨_, rfl⟩
        have h0 : wn230.heap[b0]? = some (.cells k0 122 (0, 0)) := by rw [← hw, ← hb]; exact blk_new _ _
        have l0 : w2.heap.size ≤ b0 := by rw [← hb]; exact below_size (by assumption)
        replace h2 : wn230.heap[b2]? = some (.cells k2 5 (0, 0)) := by rw [← hw]; exact blk_alloc h2 _
        replace h3 : wn230.heap[b3]? = some (.cells k3 83 (0, 0)) := by rw [← hw]; exact blk_alloc h3 _
        rw [hw] at hHeld ⊢
        rw [hb]
        clear hw hb
        refine one_ (i := 3) (N := some 11) #[true, true, true, true, true, true, true, true, false, false, false] rfl rfl (by kernel_rfl) (by decide) (fun K hK => ?_)
        refine value_ (by rfl) rfl (run_exec_makeSlice rfl rfl rfl (hm1 wn230)) ?_
        refine hK.out _ _ (below_alloc hHeld _) (fun hHeld => ?_)
        clear hK K
        refine norm_ (a' := ?_) ?_ ?_
        rotate_left
        · show Act.put _ (some 11) _ = _
          simp only [Act.put, List.setIfInBounds_toArray, List.set_cons_zero, List.set_cons_succ, i64_w, i32_w]
          rfl
        obtain ⟨wn2301, hw⟩ : ∃ x, wn230.alloc (.cells k1 3) = x := ⟨_, rfl⟩
        obtain ⟨b1, hb⟩ : ∃ x, wn230.heap.size = x := ⟨_, rfl⟩
        have h1 : wn2301.heap[b1]? = some (.cells k1 3 (0, 0)) := by rw [← hw, ← hb]; exact blk_new _ _
        have l1 : w2.heap.size ≤ b1 := by rw [← hb]; exact below_size (by assumption)
        replace h2 : wn2301.heap[b2]? = some (.cells k2 5 (0, 0)) := by rw [← hw]; exact blk_alloc h2 _
        replace h3 : wn2301.heap[b3]? = some (.cells k3 83 (0, 0)) := by rw [← hw]; exact blk_alloc h3 _
        replace h0 : wn2301.heap[b0]? = some (.cells k0 122 (0, 0)) := by rw [← hw]; exact blk_alloc h0 _
        rw [hw] at hHeld ⊢
        rw [hb]
        clear hw hb
        refine pure_ (i := 8) (N := some 16) (v := .agg #[.slice (some ⟨b0, 0, none⟩) 16 16, .slice (some ⟨b1, 0, none⟩) 6 6, .slice (some ⟨b2, 0, none⟩) 64 64, .slice (some ⟨b3, 0, none⟩) 12 12]) (a' := ?_) #[true, true, true, true, true, true, true, true, true, false, false] rfl rfl (by kernel_rfl) (fun _ _ _ h => h) (yields_build (by rfl) 36 #[(0, .tmp 8), (1, .tmp 11), (2, .tmp 12), (3, .tmp 15)] rfl _ #[.slice (some ⟨b0, 0, none⟩) 16 16, .slice (some ⟨b1, 0, none⟩) 6 6, .slice (some ⟨b2, 0, none⟩) 64 64, .slice (some ⟨b3, 0, none⟩) 12 12] (by simp only [List.map_toArray, List.map_cons, List.map_nil]; rfl) (by kernel_rfl)) ?_ ?_
        rotate_left
        · simp only [Act.put, List.setIfInBounds_toArray, List.set_cons_zero, List.set_cons_succ, i64_w, i32_w]
          rfl
        refine last_ (i := 9) (N := none) #[true, true, true, true, true, true, true, true, true, true, false] rfl rfl (by kernel_rfl) (by decide) (fun K hK => ?_)
        have hz := blk_below HX2.out.met hHeld
        refine skip_ (by rfl) rfl (run_exec_store rfl rfl rfl (store_row (W := wn2301) (ty := 36) (cells := #[.slice (some ⟨b0, 0, none⟩) 16 16, .slice (some ⟨b1, 0, none⟩) 6 6, .slice (some ⟨b2, 0, none⟩) 64 64, .slice (some ⟨b3, 0, none⟩) 12 12]) hz (by rw [sz_meta]; rfl) rfl (by simp [Value.oneCell']))) ?_
        refine hK.out _ _ ?_
        clear hK K
        refine pure_ (i := 10) (N := some 3) (v := ?_) (a' := ?_) #[true, true, true, true, true, true, true, true, true, true, true] rfl rfl (by kernel_rfl) (fun _ _ _ h => h) (Or.inl ⟨by rfl, ?_⟩) ?_ ?_
        rotate_left
        · intro w'
          go_simp
          with_reducible rfl
        rotate_left
        · simp only [Act.put, List.setIfInBounds_toArray, List.set_cons_zero, List.set_cons_succ, i64_w, i32_w]
          rfl
        refine done_ (by kernel_rfl) ?_
        go_wp2_with fail
        refine bodyPost_ret (results_cell_tmp rfl _ _ (w.heap.size + 1) 36 #[.slice (some ⟨b0, 0, none⟩) 16 16, .slice (some ⟨b1, 0, none⟩) 6 6, .slice (some ⟨b2, 0, none⟩) 64 64, .slice (some ⟨b3, 0, none⟩) 12 12] (0, 0) _ rfl (setRow_heap wn2301 _ _ _ _ _ hz) Try.underlying36 rfl sz_meta) rfl ?_
        exact new_post HX2.out E.out h0 h1 h2 h3 l0 l1 l2 l3 hHeld _
      · refine value_ (by rfl) rfl (run_exec_makeSlice rfl rfl rfl (hm1 wn23)) ?_
        refine hK.out _ _ (below_alloc hHeld _) (fun hHeld => ?_)
        clear hK K
        refine norm_ (a' := ?_) ?_ ?_
        rotate_left
        · show Act.put _ (some 11) _ = _
          simp only [Act.put, List.setIfInBounds_toArray, List.set_cons_zero, List.set_cons_succ, i64_w, i32_w]
          rfl
        obtain ⟨wn231, hw⟩ : ∃ x, wn23.alloc (.cells k1 3) = x := ⟨_, rfl⟩
        obtain ⟨b1, hb⟩ : ∃ x, wn23.heap.size = x := ⟨_, rfl⟩
        have h1 : wn231.heap[b1]? = some (.cells k1 3 (0, 0)) := by rw [← hw, ← hb]; exact blk_new _ _
        have l1 : w2.heap.size ≤ b1 := by rw [← hb]; exact below_size (by assumption)
        replace h2 : wn231.heap[b2]? = some (.cells k2 5 (0, 0)) := by rw [← hw]; exact blk_alloc h2 _
        replace h3 : wn231.heap[b3]? = some (.cells k3 83 (0, 0)) := by rw [← hw]; exact blk_alloc h3 _
        rw [hw] at hHeld ⊢
        rw [hb]
        clear hw hb
        refine one_ (i := 0) (N := some 8) #[true, true, true, true, true, true, true, true, false, false, false] rfl rfl (by kernel_rfl) (by decide) (fun K hK => ?_)
        refine value_ (by rfl) rfl (run_exec_makeSlice rfl rfl rfl (hm0 wn231)) ?_
        refine hK.out _ _ (below_alloc hHeld _) (fun hHeld => ?_)
        clear hK K
        refine norm_ (a' := ?_) ?_ ?_
        rotate_left
        · show Act.put _ (some 8) _ = _
          simp only [Act.put, List.setIfInBounds_toArray, List.set_cons_zero, List.set_cons_succ, i64_w, i32_w]
          rfl
        obtain ⟨wn2310, hw⟩ : ∃ x, wn231.alloc (.cells k0 122) = x := ⟨_, rfl⟩
        obtain ⟨b0, hb⟩ : ∃ x, wn231.heap.size = x := ⟨_, rfl⟩
        have h0 : wn2310.heap[b0]? = some (.cells k0 122 (0, 0)) := by rw [← hw, ← hb]; exact blk_new _ _
        have l0 : w2.heap.size ≤ b0 := by rw [← hb]; exact below_size (by assumption)
        replace h2 : wn2310.heap[b2]? = some (.cells k2 5 (0, 0)) := by rw [← hw]; exact blk_alloc h2 _
        replace h3 : wn2310.heap[b3]? = some (.cells k3 83 (0, 0)) := by rw [← hw]; exact blk_alloc h3 _
        replace h1 : wn2310.heap[b1]? = some (.cells k1 3 (0, 0)) := by rw [← hw]; exact blk_alloc h1 _
        rw [hw] at hHeld ⊢
        rw [hb]
        clear hw hb
        refine pure_ (i := 8) (N := some 16) (v := .agg #[.slice (some ⟨b0, 0, none⟩) 16 16, .slice (some ⟨b1, 0, none⟩) 6 6, .slice (some ⟨b2, 0, none⟩) 64 64, .slice (some ⟨b3, 0, none⟩) 12 12]) (a' := ?_) #[true, true, true, true, true, true, true, true, true, false, false] rfl rfl (by kernel_rfl) (fun _ _ _ h => h) (yields_build (by rfl) 36 #[(0, .tmp 8), (1, .tmp 11), (2, .tmp 12), (3, .tmp 15)] rfl _ #[.slice (some ⟨b0, 0, none⟩) 16 16, .slice (some ⟨b1, 0, none⟩) 6 6, .slice (some ⟨b2, 0, none⟩) 64 64, .slice (some ⟨b3, 0, none⟩) 12 12] (by simp only [List.map_toArray, List.map_cons, List.map_nil]; rfl) (by kernel_rfl)) ?_ ?_
        rotate_left
        · simp only [Act.put, List.setIfInBounds_toArray, List.set_cons_zero, List.set_cons_succ, i64_w, i32_w]
          rfl
        refine last_ (i := 9) (N := none) #[true, true, true, true, true, true, true, true, true, true, false] rfl rfl (by kernel_rfl) (by decide) (fun K hK => ?_)
        have hz := blk_below HX2.out.met hHeld
        refine skip_ (by rfl) rfl (run_exec_store rfl rfl rfl (store_row (W := wn2310) (ty := 36) (cells := #[.slice (some ⟨b0, 0, none⟩) 16 16, .slice (some ⟨b1, 0, none⟩) 6 6, .slice (some ⟨b2, 0, none⟩) 64 64, .slice (some ⟨b3, 0, none⟩) 12 12]) hz (by rw [sz_meta]; rfl) rfl (by simp [Value.oneCell']))) ?_
        refine hK.out _ _ ?_
        clear hK K
        refine pure_ (i := 10) (N := some 3) (v := ?_) (a' := ?_) #[true, true, true, true, true, true, true, true, true, true, true] rfl rfl (by kernel_rfl) (fun _ _ _ h => h) (Or.inl ⟨by rfl, ?_⟩) ?_ ?_
        rotate_left
        · intro w'
          go_simp
          with_reducible rfl
        rotate_left
        · simp only [Act.put, List.setIfInBounds_toArray, List.set_cons_zero, List.set_cons_succ, i64_w, i32_w]
          rfl
        refine done_ (by kernel_rfl) ?_
        go_wp2_with fail
        refine bodyPost_ret (results_cell_tmp rfl _ _ (w.heap.size + 1) 36 #[.slice (some ⟨b0, 0, none⟩) 16 16, .slice (some ⟨b1, 0, none⟩) 6 6, .slice (some ⟨b2, 0, none⟩) 64 64, .slice (some ⟨b3, 0, none⟩) 12 12] (0, 0) _ rfl (setRow_heap wn2310 _ _ _ _ _ hz) Try.underlying36 rfl sz_meta) rfl ?_
        exact new_post HX2.out E.out h0 h1 h2 h3 l0 l1 l2 l3 hHeld _
  · refine value_ (by rfl) rfl (run_exec_makeSlice rfl rfl rfl (hm3 w2.drew)) ?_
    refine hK.out _ _ (below_alloc hHeld _) (fun hHeld => ?_)
    clear hK K
    refine norm_ (a' := ?_) ?_ ?_
    rotate_left
    · show Act.put _ (some 15) _ = _
      simp only [Act.put, List.setIfInBounds_toArray, List.set_cons_zero, List.set_cons_succ, i64_w, i32_w]
      rfl
    obtain ⟨wn3, hw⟩ : ∃ x, w2.drew.alloc (.cells k3 83) = x := ⟨_, rfl⟩
    obtain ⟨b3, hb⟩ : ∃ x, w2.drew.heap.size = x := ⟨_, rfl⟩
    have h3 : wn3.heap[b3]? = some (.cells k3 83 (0, 0)) := by rw [← hw, ← hb]; exact blk_new _ _
    have l3 : w2.heap.size ≤ b3 := by rw [← hb]; exact below_size (by assumption)
    rw [hw] at hHeld ⊢
    rw [hb]
    clear hw hb
    refine three_ (i := 0) (j := 3) (k := 4) (Ni := some 8) (Nj := some 11) (Nk := some 12) #[true, true, true, false, false, true, true, true, false, false, false] #[false, true, true, true, false, true, true, true, false, false, false] #[false, true, true, false, true, true, true, true, false, false, false] rfl rfl rfl rfl rfl rfl (by kernel_rfl) (by decide) (by decide) (by decide) (fun K hK => ?_) (fun K hK => ?_) (fun K hK => ?_)
    · refine value_ (by rfl) rfl (run_exec_makeSlice rfl rfl rfl (hm0 wn3)) ?_
      refine hK.out _ _ (below_alloc hHeld _) (fun hHeld => ?_)
      clear hK K
      refine norm_ (a' := ?_) ?_ ?_
      rotate_left
      · show Act.put _ (some 8) _ = _
        simp only [Act.put, List.setIfInBounds_toArray, List.set_cons_zero, List.set_cons_succ, i64_w, i32_w]
        rfl
      obtain ⟨wn30, hw⟩ : ∃ x, wn3.alloc (.cells k0 122) = x := ⟨_, rfl⟩
      obtain ⟨b0, hb⟩ : ∃ x, wn3.heap.size = x := ⟨_, rfl⟩
      have h0 : wn30.heap[b0]? = some (.cells k0 122 (0, 0)) := by rw [← hw, ← hb]; exact blk_new _ _
      have l0 : w2.heap.size ≤ b0 := by rw [← hb]; exact below_size (by assumption)
      replace h3 : wn30.heap[b3]? = some (.cells k3 83 (0, 0)) := by rw [← hw]; exact blk_alloc h3 _
      rw [hw] at hHeld ⊢
      rw [hb]
      clear hw hb
      refine two_ (i := 3) (j := 4) (Ni := some 11) (Nj := some 12) #[true, true, true, true, false, true, true, true, false, false, false] #[true, true, true, false, true, true, true, true, false, false, false] rfl rfl rfl rfl (by kernel_rfl) (by decide) (by decide) (fun K hK => ?_) (fun K hK => ?_)
      · refine value_ (by rfl) rfl (run_exec_makeSlice rfl rfl rfl (hm1 wn30)) ?_
        refine hK.out _ _ (below_alloc hHeld _) (fun hHeld => ?_)
        clear hK K
        refine norm_ (a' := ?_) ?_ ?_
        rotate_left
        · show Act.put _ (some 11) _ = _
          simp only [Act.put, List.setIfInBounds_toArray, List.set_cons_zero, List.set_cons_succ, i64_w, i32_w]
          rfl
        obtain ⟨wn301, hw⟩ : ∃ x, wn30.alloc (.cells k1 3) = x := ⟨_, rfl⟩
        obtain ⟨b1, hb⟩ : ∃ x, wn30.heap.size = x := ⟨_, rfl⟩
        have h1 : wn301.heap[b1]? = some (.cells k1 3 (0, 0)) := by rw [← hw, ← hb]; exact blk_new _ _
        have l1 : w2.heap.size ≤ b1 := by rw [← hb]; exact below_size (by assumption)
        replace h3 : wn301.heap[b3]? = some (.cells k3 83 (0, 0)) := by rw [← hw]; exact blk_alloc h3 _
        replace h0 : wn301.heap[b0]? = some (.cells k0 122 (0, 0)) := by rw [← hw]; exact blk_alloc h0 _
        rw [hw] at hHeld ⊢
        rw [hb]
        clear hw hb
        refine one_ (i := 4) (N := some 12) #[true, true, true, true, true, true, true, true, false, false, false] rfl rfl (by kernel_rfl) (by decide) (fun K hK => ?_)
        refine value_ (by rfl) rfl (run_exec_makeSlice rfl rfl rfl (hm2 wn301)) ?_
        refine hK.out _ _ (below_alloc hHeld _) (fun hHeld => ?_)
        clear hK K
        refine norm_ (a' := ?_) ?_ ?_
        rotate_left
        · show Act.put _ (some 12) _ = _
          simp only [Act.put, List.setIfInBounds_toArray, List.set_cons_zero, List.set_cons_succ, i64_w, i32_w]
          rfl
        obtain ⟨wn3012, hw⟩ : ∃ x, wn301.alloc (.cells k2 5) = x := ⟨_, rfl⟩
        obtain ⟨b2, hb⟩ : ∃ x, wn301.heap.size = x := ⟨_, rfl⟩
        have h2 : wn3012.heap[b2]? = some (.cells k2 5 (0, 0)) := by rw [← hw, ← hb]; exact blk_new _ _
        have l2 : w2.heap.size ≤ b2 := by rw [← hb]; exact below_size (by assumption)
        replace h3 : wn3012.heap[b3]? = some (.cells k3 83 (0, 0)) := by rw [← hw]; exact blk_alloc h3 _
        replace h0 : wn3012.heap[b0]? = some (.cells k0 122 (0, 0)) := by rw [← hw]; exact blk_alloc h0 _
        replace h1 : wn3012.heap[b1]? = some (.cells k1 3 (0, 0)) := by rw [← hw]; exact blk_alloc h1 _
        rw [hw] at hHeld ⊢
        rw [hb]
        clear hw hb
        refine pure_ (i := 8) (N := some 16) (v := .agg #[.slice (some ⟨b0, 0, none⟩) 16 16, .slice (some ⟨b1, 0, none⟩) 6 6, .slice (some ⟨b2, 0, none⟩) 64 64, .slice (some ⟨b3, 0, none⟩) 12 12]) (a' := ?_) #[true, true, true, true, true, true, true, true, true, false, false] rfl rfl (by kernel_rfl) (fun _ _ _ h => h) (yields_build (by rfl) 36 #[(0, .tmp 8), (1, .tmp 11), (2, .tmp 12), (3, .tmp 15)] rfl _ #[.slice (some ⟨b0, 0, none⟩) 16 16, .slice (some ⟨b1, 0, none⟩) 6 6, .slice (some ⟨b2, 0, none⟩) 64 64, .slice (some ⟨b3, 0, none⟩) 12 12] (by simp only [List.map_toArray, List.map_cons, List.map_nil]; rfl) (by kernel_rfl)) ?_ ?_
        rotate_left
        · simp only [Act.put, List.setIfInBounds_toArray, List.set_cons_zero, List.set_cons_succ, i64_w, i32_w]
          rfl
        refine last_ (i := 9) (N := none) #[true, true, true, true, true, true, true, true, true, true, false] rfl rfl (by kernel_rfl) (by decide) (fun K hK => ?_)
        have hz := blk_below HX2.out.met hHeld
        refine skip_ (by rfl) rfl (run_exec_store rfl rfl rfl (store_row (W := wn3012) (ty := 36) (cells := #[.slice (some ⟨b0, 0, none⟩) 16 16, .slice (some ⟨b1, 0, none⟩) 6 6, .slice (some ⟨b2, 0, none⟩) 64 64, .slice (some ⟨b3, 0, none⟩) 12 12]) hz (by rw [sz_meta]; rfl) rfl (by simp [Value.oneCell']))) ?_
        refine hK.out _ _ ?_
        clear hK K
        refine pure_ (i := 10) (N := some 3) (v := ?_) (a' := ?_) #[true, true, true, true, true, true, true, true, true, true, true] rfl rfl (by kernel_rfl) (fun _ _ _ h => h) (Or.inl ⟨by rfl, ?_⟩) ?_ ?_
        rotate_left
        · intro w'
          go_simp
          with_reducible rfl
        rotate_left
        · simp only [Act.put, List.setIfInBounds_toArray, List.set_cons_zero, List.set_cons_succ, i64_w, i32_w]
          rfl
        refine done_ (by kernel_rfl) ?_
        go_wp2_with fail
        refine bodyPost_ret (results_cell_tmp rfl _ _ (w.heap.size + 1) 36 #[.slice (some ⟨b0, 0, none⟩) 16 16, .slice (some ⟨b1, 0, none⟩) 6 6, .slice (some ⟨b2, 0, none⟩) 64 64, .slice (some ⟨b3, 0, none⟩) 12 12] (0, 0) _ rfl (setRow_heap wn3012 _ _ _ _ _ hz) Try.underlying36 rfl sz_meta) rfl ?_
        exact new_post HX2.out E.out h0 h1 h2 h3 l0 l1 l2 l3 hHeld _
      · refine value_ (by rfl) rfl (run_exec_makeSlice rfl rfl rfl (hm2 wn30)) ?_
        refine hK.out _ _ (below_alloc hHeld _) (fun hHeld => ?_)
        clear hK K
        refine norm_ (a' := ?_) ?_ ?_
        rotate_left
        · show Act.put _ (some 12) _ = _
          simp only [Act.put, List.setIfInBounds_toArray, List.set_cons_zero, List.set_cons_succ, i64_w, i32_w]
          rfl
        obtain ⟨wn302, hw⟩ : ∃ x, wn30.alloc (.cells k2 5) = x := ⟨_, rfl⟩
        obtain ⟨b2, hb⟩ : ∃ x, wn30.heap.size = x := ⟨_, rfl⟩
        have h2 : wn302.heap[b2]? = some (.cells k2 5 (0, 0)) := by rw [← hw, ← hb]; exact blk_new _ _
        have l2 : w2.heap.size ≤ b2 := by rw [← hb]; exact below_size (by assumption)
        replace h3 : wn302.heap[b3]? = some (.cells k3 83 (0, 0)) := by rw [← hw]; exact blk_alloc h3 _
        replace h0 : wn302.heap[b0]? = some (.cells k0 122 (0, 0)) := by rw [← hw]; exact blk_alloc h0 _
        rw [hw] at hHeld ⊢
        rw [hb]
        clear hw hb
        refine one_ (i := 3) (N := some 11) #[true, true, true, true, true, true, true, true, false, false, false] rfl rfl (by kernel_rfl) (by decide) (fun K hK => ?_)
        refine value_ (by rfl) rfl (run_exec_makeSlice rfl rfl rfl (hm1 wn302)) ?_
        refine hK.out _ _ (below_alloc hHeld _) (fun hHeld => ?_)
        clear hK K
        refine norm_ (a' := ?_) ?_ ?_
        rotate_left
        · show Act.put _ (some 11) _ = _
          simp only [Act.put, List.setIfInBounds_toArray, List.set_cons_zero, List.set_cons_succ, i64_w, i32_w]
          rfl
        obtain ⟨wn3021, hw⟩ : ∃ x, wn302.alloc (.cells k1 3) = x := ⟨_, rfl⟩
        obtain ⟨b1, hb⟩ : ∃ x, wn302.heap.size = x := ⟨_, rfl⟩
        have h1 : wn3021.heap[b1]? = some (.cells k1 3 (0, 0)) := by rw [← hw, ← hb]; exact blk_new _ _
        have l1 : w2.heap.size ≤ b1 := by rw [← hb]; exact below_size (by assumption)
        replace h3 : wn3021.heap[b3]? = some (.cells k3 83 (0, 0)) := by rw [← hw]; exact blk_alloc h3 _
        replace h0 : wn3021.heap[b0]? = some (.cells k0 122 (0, 0)) := by rw [← hw]; exact blk_alloc h0 _
        replace h2 : wn3021.heap[b2]? = some (.cells k2 5 (0, 0)) := by rw [← hw]; exact blk_alloc h2 _
        rw [hw] at hHeld ⊢
        rw [hb]
        clear hw hb
        refine pure_ (i := 8) (N := some 16) (v := .agg #[.slice (some ⟨b0, 0, none⟩) 16 16, .slice (some ⟨b1, 0, none⟩) 6 6, .slice (some ⟨b2, 0, none⟩) 64 64, .slice (some ⟨b3, 0, none⟩) 12 12]) (a' := ?_) #[true, true, true, true, true, true, true, true, true, false, false] rfl rfl (by kernel_rfl) (fun _ _ _ h => h) (yields_build (by rfl) 36 #[(0, .tmp 8), (1, .tmp 11), (2, .tmp 12), (3, .tmp 15)] rfl _ #[.slice (some ⟨b0, 0, none⟩) 16 16, .slice (some ⟨b1, 0, none⟩) 6 6, .slice (some ⟨b2, 0, none⟩) 64 64, .slice (some ⟨b3, 0, none⟩) 12 12] (by simp only [List.map_toArray, List.map_cons, List.map_nil]; rfl) (by kernel_rfl)) ?_ ?_
        rotate_left
        · simp only [Act.put, List.setIfInBounds_toArray, List.set_cons_zero, List.set_cons_succ, i64_w, i32_w]
          rfl
        refine last_ (i := 9) (N := none) #[true, true, true, true, true, true, true, true, true, true, false] rfl rfl (by kernel_rfl) (by decide) (fun K hK => ?_)
        have hz := blk_below HX2.out.met hHeld
        refine skip_ (by rfl) rfl (run_exec_store rfl rfl rfl (store_row (W := wn3021) (ty := 36) (cells := #[.slice (some ⟨b0, 0, none⟩) 16 16, .slice (some ⟨b1, 0, none⟩) 6 6, .slice (some ⟨b2, 0, none⟩) 64 64, .slice (some ⟨b3, 0, none⟩) 12 12]) hz (by rw [sz_meta]; rfl) rfl (by simp [Value.oneCell']))) ?_
        refine hK.out _ _ ?_
        clear hK K
        refine pure_ (i := 10) (N := some 3) (v := ?_) (a' := ?_) #[true, true, true, true, true, true, true, true, true, true, true] rfl rfl (by kernel_rfl) (fun _ _ _ h => h) (Or.inl ⟨by rfl, ?_⟩) ?_ ?_
        rotate_left
        · intro w'
          go_simp
          with_reducible rfl
        rotate_left
        · simp only [Act.put, List.setIfInBounds_toArray, List.set_cons_zero, List.set_cons_succ, i64_w, i32_w]
          rfl
        refine done_ (by kernel_rfl) ?_
        go_wp2_with fail
        refine bodyPost_ret (results_cell_tmp rfl _ _ (w.heap.size + 1) 36 #[.slice (some ⟨b0, 0, none⟩) 16 16, .slice (some ⟨b1, 0, none⟩) 6 6, .slice (some ⟨b2, 0, none⟩) 64 64, .slice (some ⟨b3, 0, none⟩) 12 12] (0, 0) _ rfl (setRow_heap wn3021 _ _ _ _ _ hz) Try.underlying36 rfl sz_meta) rfl ?_
        exact new_post HX2.out E.out h0 h1 h2 h3 l0 l1 l2 l3 hHeld _
    · refine value_ (by rfl) rfl (run_exec_makeSlice rfl rfl rfl (hm1 wn3)) ?_
      refine hK.out _ _ (below_alloc hHeld _) (fun hHeld => ?_)
      clear hK K
      refine norm_ (a' := ?_) ?_ ?_
      rotate_left
      · show Act.put _ (some 11) _ = _
        simp only [Act.put, List.setIfInBounds_toArray, List.set_cons_zero, List.set_cons_succ, i64_w, i32_w]
        rfl
      obtain ⟨wn31, hw⟩ : ∃ x, wn3.alloc (.cells k1 3) = x := ⟨_, rfl⟩
      obtain ⟨b1, hb⟩ : ∃ x, wn3.heap.size = x := ⟨_, rfl⟩
      have h1 : wn31.heap[b1]? = some (.cells k1 3 (0, 0)) := by rw [← hw, ← hb]; exact blk_new _ _
      have l1 : w2.heap.size ≤ b1 := by rw [← hb]; exact below_size (by assumption)
      replace h3 : wn31.heap[b3]? = some (.cells k3 83 (0, 0)) := by rw [← hw]; exact blk_alloc h3 _
      rw [hw] at hHeld ⊢
      rw [hb]
      clear hw hb
      refine two_ (i := 0) (j := 4) (Ni := some 8) (Nj := some 12) #[true, true, true, true, false, true, true, true, false, false, false] #[false, true, true, true, true, true, true, true, false, false, false] rfl rfl rfl rfl (by kernel_rfl) (by decide) (by decide) (fun K hK => ?_) (fun K hK => ?_)
      · refine value_ (by rfl) rfl (run_exec_makeSlice rfl rfl rfl (hm0 wn31)) ?_
        refine hK.out _ _ (below_alloc hHeld _) (fun hHeld => ?_)
        clear hK K
        refine norm_ (a' := ?_) ?_ ?_
        rotate_left
        · show Act.put _ (some 8) _ = _
          simp only [Act.put, List.setIfInBounds_toArray, List.set_cons_zero, List.set_cons_succ, i64_w, i32_w]
          rfl
        obtain ⟨wn310, hw⟩ : ∃ x, wn31.alloc (.cells k0 122) = x := ⟨_, rfl⟩
        obtain ⟨b0, hb⟩ : ∃ x, wn31.heap.size = x := ⟨_, rfl⟩
        have h0 : wn310.heap[b0]? = some (.cells k0 122 (0, 0)) := by rw [← hw, ← hb]; exact blk_new _ _
        have l0 : w2.heap.size ≤ b0 := by rw [← hb]; exact below_size (by assumption)
        replace h3 : wn310.heap[b3]? = some (.cells k3 83 (0, 0)) := by rw [← hw]; exact blk_alloc h3 _
        replace h1 : wn310.heap[b1]? = some (.cells k1 3 (0, 0)) := by rw [← hw]; exact blk_alloc h1 _
        rw [hw] at hHeld ⊢
        rw [hb]
        clear hw hb
        refine one_ (i := 4) (N := some 12) #[true, true, true, true, true, true, true, true, false, false, false] rfl rfl (by kernel_rfl) (by decide) (fun K hK => ?_)
        refine value_ (by rfl) rfl (run_exec_makeSlice rfl rfl rfl (hm2 wn310)) ?_
        refine hK.out _ _ (below_alloc hHeld _) (fun hHeld => ?_)
        clear hK K
        refine norm_ (a' := ?_) ?_ ?_
        rotate_left
        · show Act.put _ (some 12) _ = _
          simp only [Act.put, List.setIfInBounds_toArray, List.set_cons_zero, List.set_cons_succ, i64_w, i32_w]
          rfl
        obtain ⟨wn3102, hw⟩ : ∃ x, wn310.alloc (.cells k2 5) = x := ⟨_, rfl⟩
        obtain ⟨b2, hb⟩ : ∃ x, wn310.heap.size = x := ⟨_, rfl⟩
        have h2 : wn3102.heap[b2]? = some (.cells k2 5 (0, 0)) := by rw [← hw, ← hb]; exact blk_new _ _
        have l2 : w2.heap.size ≤ b2 := by rw [← hb]; exact below_size (by assumption)
        replace h3 : wn3102.heap[b3]? = some (.cells k3 83 (0, 0)) := by rw [← hw]; exact blk_alloc h3 _
        replace h1 : wn3102.heap[b1]? = some (.cells k1 3 (0, 0)) := by rw [← hw]; exact blk_alloc h1 _
        replace h0 : wn3102.heap[b0]? = some (.cells k0 122 (0, 0)) := by rw [← hw]; exact blk_alloc h0 _
        rw [hw] at hHeld ⊢
        rw [hb]
        clear hw hb
        refine pure_ (i := 8) (N := some 16) (v := .agg #[.slice (some ⟨b0, 0, none⟩) 16 16, .slice (some ⟨b1, 0, none⟩) 6 6, .slice (some ⟨b2, 0, none⟩) 64 64, .slice (some ⟨b3, 0, none⟩) 12 12]) (a' := ?_) #[true, true, true, true, true, true, true, true, true, false, false] rfl rfl (by kernel_rfl) (fun _ _ _ h => h) (yields_build (by rfl) 36 #[(0, .tmp 8), (1, .tmp 11), (2, .tmp 12), (3, .tmp 15)] rfl _ #[.slice (some ⟨b0, 0, none⟩) 16 16, .slice (some ⟨b1, 0, none⟩) 6 6, .slice (some ⟨b2, 0, none⟩) 64 64, .slice (some ⟨b3, 0, none⟩) 12 12] (by simp only [List.map_toArray, List.map_cons, List.map_nil]; rfl) (by kernel_rfl)) ?_ ?_
        rotate_left
        · simp only [Act.put, List.setIfInBounds_toArray, List.set_cons_zero, List.set_cons_succ, i64_w, i32_w]
          rfl
        refine last_ (i := 9) (N := none) #[true, true, true, true, true, true, true, true, true, true, false] rfl rfl (by kernel_rfl) (by decide) (fun K hK => ?_)
        have hz := blk_below HX2.out.met hHeld
        refine skip_ (by rfl) rfl (run_exec_store rfl rfl rfl (store_row (W := wn3102) (ty := 36) (cells := #[.slice (some ⟨b0, 0, none⟩) 16 16, .slice (some ⟨b1, 0, none⟩) 6 6, .slice (some ⟨b2, 0, none⟩) 64 64, .slice (some ⟨b3, 0, none⟩) 12 12]) hz (by rw [sz_meta]; rfl) rfl (by simp [Value.oneCell']))) ?_
        refine hK.out _ _ ?_
        clear hK K
        refine pure_ (i := 10) (N := some 3) (v := ?_) (a' := ?_) #[true, true, true, true, true, true, true, true, true, true, true] rfl rfl (by kernel_rfl) (fun _ _ _ h => h) (Or.inl ⟨by rfl, ?_⟩) ?_ ?_
        rotate_left
        · intro w'
          go_simp
          with_reducible rfl
        rotate_left
        · simp only [Act.put, List.setIfInBounds_toArray, List.set_cons_zero, List.set_cons_succ, i64_w, i32_w]
          rfl
        refine done_ (by kernel_rfl) ?_
        go_wp2_with fail
        refine bodyPost_ret (results_cell_tmp rfl _ _ (w.heap.size + 1) 36 #[.slice (some ⟨b0, 0, none⟩) 16 16, .slice (some ⟨b1, 0, none⟩) 6 6, .slice (some ⟨b2, 0, none⟩) 64 64, .slice (some ⟨b3, 0, none⟩) 12 12] (0, 0) _ rfl (setRow_heap wn3102 _ _ _ _ _ hz) Try.underlying36 rfl sz_meta) rfl ?_
        exact new_post HX2.out E.out h0 h1 h2 h3 l0 l1 l2 l3 hHeld _
      · refine value_ (by rfl) rfl (run_exec_makeSlice rfl rfl rfl (hm2 wn31)) ?_
        refine hK.out _ _ (below_alloc hHeld _) (fun hHeld => ?_)
        clear hK K
        refine norm_ (a' := ?_) ?_ ?_
        rotate_left
        · show Act.put _ (some 12) _ = _
          simp only [Act.put, List.setIfInBounds_toArray, List.set_cons_zero, List.set_cons_succ, i64_w, i32_w]
          rfl
        obtain ⟨wn312, hw⟩ : ∃ x, wn31.alloc (.cells k2 5) = x := ⟨_, rfl⟩
        obtain ⟨b2, hb⟩ : ∃ x, wn31.heap.size = x := ⟨_, rfl⟩
        have h2 : wn312.heap[b2]? = some (.cells k2 5 (0, 0)) := by rw [← hw, ← hb]; exact blk_new _ _
        have l2 : w2.heap.size ≤ b2 := by rw [← hb]; exact below_size (by assumption)
        replace h3 : wn312.heap[b3]? = some (.cells k3 83 (0, 0)) := by rw [← hw]; exact blk_alloc h3 _
        replace h1 : wn312.heap[b1]? = some (.cells k1 3 (0, 0)) := by rw [← hw]; exact blk_alloc h1 _
        rw [hw] at hHeld ⊢
        rw [hb]
        clear hw hb
        refine one_ (i := 0) (N := some 8) #[true, true, true, true, true, true, true, true, false, false, false] rfl rfl (by kernel_rfl) (by decide) (fun K hK => ?_)
        refine value_ (by rfl) rfl (run_exec_makeSlice rfl rfl rfl (hm0 wn312)) ?_
        refine hK.out _ _ (below_alloc hHeld _) (fun hHeld => ?_)
        clear hK K
        refine norm_ (a' := ?_) ?_ ?_
        rotate_left
        · show Act.put _ (some 8) _ = _
          simp only [Act.put, List.setIfInBounds_toArray, List.set_cons_zero, List.set_cons_succ, i64_w, i32_w]
          rfl
        obtain ⟨wn3120, hw⟩ : ∃ x, wn312.alloc (.cells k0 122) = x := ⟨_, rfl⟩
        obtain ⟨b0, hb⟩ : ∃ x, wn312.heap.size = x := ⟨_, rfl⟩
        have h0 : wn3120.heap[b0]? = some (.cells k0 122 (0, 0)) := by rw [← hw, ← hb]; exact blk_new _ _
        have l0 : w2.heap.size ≤ b0 := by rw [← hb]; exact below_size (by assumption)
        replace h3 : wn3120.heap[b3]? = some (.cells k3 83 (0, 0)) := by rw [← hw]; exact blk_alloc h3 _
        replace h1 : wn3120.heap[b1]? = some (.cells k1 3 (0, 0)) := by rw [← hw]; exact blk_alloc h1 _
        replace h2 : wn3120.heap[b2]? = some (.cells k2 5 (0, 0)) := by rw [← hw]; exact blk_alloc h2 _
        rw [hw] at hHeld ⊢
        rw [hb]
        clear hw hb
        refine pure_ (i := 8) (N := some 16) (v := .agg #[.slice (some ⟨b0, 0, none⟩) 16 16, .slice (some ⟨b1, 0, none⟩) 6 6, .slice (some ⟨b2, 0, none⟩) 64 64, .slice (some ⟨b3, 0, none⟩) 12 12]) (a' := ?_) #[true, true, true, true, true, true, true, true, true, false, false] rfl rfl (by kernel_rfl) (fun _ _ _ h => h) (yields_build (by rfl) 36 #[(0, .tmp 8), (1, .tmp 11), (2, .tmp 12), (3, .tmp 15)] rfl _ #[.slice (some ⟨b0, 0, none⟩) 16 16, .slice (some ⟨b1, 0, none⟩) 6 6, .slice (some ⟨b2, 0, none⟩) 64 64, .slice (some ⟨b3, 0, none⟩) 12 12] (by simp only [List.map_toArray, List.map_cons, List.map_nil]; rfl) (by kernel_rfl)) ?_ ?_
        rotate_left
        · simp only [Act.put, List.setIfInBounds_toArray, List.set_cons_zero, List.set_cons_succ, i64_w, i32_w]
          rfl
        refine last_ (i := 9) (N := none) #[true, true, true, true, true, true, true, true, true, true, false] rfl rfl (by kernel_rfl) (by decide) (fun K hK => ?_)
        have hz := blk_below HX2.out.met hHeld
        refine skip_ (by rfl) rfl (run_exec_store rfl rfl rfl (store_row (W := wn3120) (ty := 36) (cells := #[.slice (some ⟨b0, 0, none⟩) 16 16, .slice (some ⟨b1, 0, none⟩) 6 6, .slice (some ⟨b2, 0, none⟩) 64 64, .slice (some ⟨b3, 0, none⟩) 12 12]) hz (by rw [sz_meta]; rfl) rfl (by simp [Value.oneCell']))) ?_
        refine hK.out _ _ ?_
        clear hK K
        refine pure_ (i := 10) (N := some 3) (v := ?_) (a' := ?_) #[true, true, true, true, true, true, true, true, true, true, true] rfl rfl (by kernel_rfl) (fun _ _ _ h => h) (Or.inl ⟨by rfl, ?_⟩) ?_ ?_
        rotate_left
        · intro w'
          go_simp
          with_reducible rfl
        rotate_left
        · simp only [Act.put, List.setIfInBounds_toArray, List.set_cons_zero, List.set_cons_succ, i64_w, i32_w]
          rfl
        refine done_ (by kernel_rfl) ?_
        go_wp2_with fail
        refine bodyPost_ret (results_cell_tmp rfl _ _ (w.heap.size + 1) 36 #[.slice (some ⟨b0, 0, none⟩) 16 16, .slice (some ⟨b1, 0, none⟩) 6 6, .slice (some ⟨b2, 0, none⟩) 64 64, .slice (some ⟨b3, 0, none⟩) 12 12] (0, 0) _ rfl (setRow_heap wn3120 _ _ _ _ _ hz) Try.underlying36 rfl sz_meta) rfl ?_
        exact new_post HX2.out E.out h0 h1 h2 h3 l0 l1 l2 l3 hHeld _
    · refine value_ (by rfl) rfl (run_exec_makeSlice rfl rfl rfl (hm2 wn3)) ?_
      refine hK.out _ _ (below_alloc hHeld _) (fun hHeld => ?_)
      clear hK K
      refine norm_ (a' := ?_) ?_ ?_
      rotate_left
      · show Act.put _ (some 12) _ = _
        simp only [Act.put, List.setIfInBounds_toArray, List.set_cons_zero, List.set_cons_succ, i64_w, i32_w]
        rfl
      obtain ⟨wn32, hw⟩ : ∃ x, wn3.alloc (.cells k2 5) = x := ⟨_, rfl⟩
      obtain ⟨b2, hb⟩ : ∃ x, wn3.heap.size = x := ⟨_, rfl⟩
      have h2 : wn32.heap[b2]? = some (.cells k2 5 (0, 0)) := by rw [← hw, ← hb]; exact blk_new _ _
      have l2 : w2.heap.size ≤ b2 := by rw [← hb]; exact below_size (by assumption)
      replace h3 : wn32.heap[b3]? = some (.cells k3 83 (0, 0)) := by rw [← hw]; exact blk_alloc h3 _
      rw [hw] at hHeld ⊢
      rw [hb]
      clear hw hb
      refine two_ (i := 0) (j := 3) (Ni := some 8) (Nj := some 11) #[true, true, true, false, true, true, true, true, false, false, false] #[false, true, true, true, true, true, true, true, false, false, false] rfl rfl rfl rfl (by kernel_rfl) (by decide) (by decide) (fun K hK => ?_) (fun K hK => ?_)
      · refine value_ (by rfl) rfl (run_exec_makeSlice rfl rfl rfl (hm0 wn32)) ?_
        refine hK.out _ _ (below_alloc hHeld _) (fun hHeld => ?_)
        clear hK K
        refine norm_ (a' := ?_) ?_ ?_
        rotate_left
        · show Act.put _ (some 8) _ = _
          simp only [Act.put, List.setIfInBounds_toArray, List.set_cons_zero, List.set_cons_succ, i64_w, i32_w]
          rfl
        obtain ⟨wn320, hw⟩ : ∃ x, wn32.alloc (.cells k0 122) = x := ⟨_, rfl⟩
        obtain ⟨b0, hb⟩ : ∃ x, wn32.heap.size = x := ⟨_, rfl⟩
        have h0 : wn320.heap[b0]? = some (.cells k0 122 (0, 0)) := by rw [← hw, ← hb]; exact blk_new _ _
        have l0 : w2.heap.size ≤ b0 := by rw [← hb]; exact below_size (by assumption)
        replace h3 : wn320.heap[b3]? = some (.cells k3 83 (0, 0)) := by rw [← hw]; exact blk_alloc h3 _
        replace h2 : wn320.heap[b2]? = some (.cells k2 5 (0, 0)) := by rw [← hw]; exact blk_alloc h2 _
        rw [hw] at hHeld ⊢
        rw [hb]
        clear hw hb
        refine one_ (i := 3) (N := some 11) #[true, true, true, true, true, true, true, true, false, false, false] rfl rfl (by kernel_rfl) (by decide) (fun K hK => ?_)
        refine value_ (by rfl) rfl (run_exec_makeSlice rfl rfl rfl (hm1 wn320)) ?_
        refine hK.out _ _ (below_alloc hHeld _) (fun hHeld => ?_)
        clear hK K
        refine norm_ (a' := ?_) ?_ ?_
        rotate_left
        · show Act.put _ (some 11) _ = _
          simp only [Act.put, List.setIfInBounds_toArray, List.set_cons_zero, List.set_cons_succ, i64_w, i32_w]
          rfl
        obtain ⟨wn3201, hw⟩ : ∃ x, wn320.alloc (.cells k1 3) = x := ⟨_, rfl⟩
        obtain ⟨b1, hb⟩ : ∃ x, wn320.heap.size = x := ⟨_, rfl⟩
        have h1 : wn3201.heap[b1]? = some (.cells k1 3 (0, 0)) := by rw [← hw, ← hb]; exact blk_new _ _
        have l1 : w2.heap.size ≤ b1 := by rw [← hb]; exact below_size (by assumption)
        replace h3 : wn3201.heap[b3]? = some (.cells k3 83 (0, 0)) := by rw [← hw]; exact blk_alloc h3 _
        replace h2 : wn3201.heap[b2]? = some (.cells k2 5 (0, 0)) := by rw [← hw]; exact blk_alloc h2 _
        replace h0 : wn3201.heap[b0]? = some (.cells k0 122 (0, 0)) := by rw [← hw]; exact blk_alloc h0 _
        rw [hw] at hHeld ⊢
        rw [hb]
        clear hw hb
        refine pure_ (i := 8) (N := some 16) (v := .agg #[.slice (some ⟨b0, 0, none⟩) 16 16, .slice (some ⟨b1, 0, none⟩) 6 6, .slice (some ⟨b2, 0, none⟩) 64 64, .slice (some ⟨b3, 0, none⟩) 12 12]) (a' := ?_) #[true, true, true, true, true, true, true, true, true, false, false] rfl rfl (by kernel_rfl) (fun _ _ _ h => h) (yields_build (by rfl) 36 #[(0, .tmp 8), (1, .tmp 11), (2, .tmp 12), (3, .tmp 15)] rfl _ #[.slice (some ⟨b0, 0, none⟩) 16 16, .slice (some ⟨b1, 0, none⟩) 6 6, .slice (some ⟨b2, 0, none⟩) 64 64, .slice (some ⟨b3, 0, none⟩) 12 12] (by simp only [List.map_toArray, List.map_cons, List.map_nil]; rfl) (by kernel_rfl)) ?_ ?_
        rotate_left
        · simp only [Act.put, List.setIfInBounds_toArray, List.set_cons_zero, List.set_cons_succ, i64_w, i32_w]
          rfl
        refine last_ (i := 9) (N := none) #[true, true, true, true, true, true, true, true, true, true, false] rfl rfl (by kernel_rfl) (by decide) (fun K hK => ?_)
        have hz := blk_below HX2.out.met hHeld
        refine skip_ (by rfl) rfl (run_exec_store rfl rfl rfl (store_row (W := wn3201) (ty := 36) (cells := #[.slice (some ⟨b0, 0, none⟩) 16 16, .slice (some ⟨b1, 0, none⟩) 6 6, .slice (some ⟨b2, 0, none⟩) 64 64, .slice (some ⟨b3, 0, none⟩) 12 12]) hz (by rw [sz_meta]; rfl) rfl (by simp [Value.oneCell']))) ?_
        refine hK.out _ _ ?_
        clear hK K
        refine pure_ (i := 10) (N := some 3) (v := ?_) (a' := ?_) #[true, true, true, true, true, true, true, true, true, true, true] rfl rfl (by kernel_rfl) (fun _ _ _ h => h) (Or.inl ⟨by rfl, ?_⟩) ?_ ?_
        rotate_left
        · intro w'
          go_simp
          with_reducible rfl
        rotate_left
        · simp only [Act.put, List.setIfInBounds_toArray, List.set_cons_zero, List.set_cons_succ, i64_w, i32_w]
          rfl
        refine done_ (by kernel_rfl) ?_
        go_wp2_with fail
        refine bodyPost_ret (results_cell_tmp rfl _ _ (w.heap.size + 1) 36 #[.slice (some ⟨b0, 0, none⟩) 16 16, .slice (some ⟨b1, 0, none⟩) 6 6, .slice (some ⟨b2, 0, none⟩) 64 64, .slice (some ⟨b3, 0, none⟩) 12 12] (0, 0) _ rfl (setRow_heap wn3201 _ _ _ _ _ hz) Try.underlying36 rfl sz_meta) rfl ?_
        exact new_post HX2.out E.out h0 h1 h2 h3 l0 l1 l2 l3 hHeld _
      · refine value_ (by rfl) rfl (run_exec_makeSlice rfl rfl rfl (hm1 wn32)) ?_
        refine hK.out _ _ (below_alloc hHeld _) (fun hHeld => ?_)
        clear hK K
        refine norm_ (a' := ?_) ?_ ?_
        rotate_left
        · show Act.put _ (some 11) _ = _
          simp only [Act.put, List.setIfInBounds_toArray, List.set_cons_zero, List.set_cons_succ, i64_w, i32_w]
          rfl
        obtain ⟨wn321, hw⟩ : ∃ x, wn32.alloc (.cells k1 3) = x := ⟨_, rfl⟩
        obtain ⟨b1, hb⟩ : ∃ x, wn32.heap.size = x := ⟨_, rfl⟩
        have h1 : wn321.heap[b1]? = some (.cells k1 3 (0, 0)) := by rw [← hw, ← hb]; exact blk_new _ _
        have l1 : w2.heap.size ≤ b1 := by rw [← hb]; exact below_size (by assumption)
        replace h3 : wn321.heap[b3]? = some (.cells k3 83 (0, 0)) := by rw [← hw]; exact blk_alloc h3 _
        replace h2 : wn321.heap[b2]? = some (.cells k2 5 (0, 0)) := by rw [← hw]; exact blk_alloc h2 _
        rw [hw] at hHeld ⊢
        rw [hb]
        clear hw hb
        refine one_ (i := 0) (N := some 8) #[true, true, true, true, true, true, true, true, false, false, false] rfl rfl (by kernel_rfl) (by decide) (fun K hK => ?_)
        refine value_ (by rfl) rfl (run_exec_makeSlice rfl rfl rfl (hm0 wn321)) ?_
        refine hK.out _ _ (below_alloc hHeld _) (fun hHeld => ?_)
        clear hK K
        refine norm_ (a' := ?_) ?_ ?_
        rotate_left
        · show Act.put _ (some 8) _ = _
          simp only [Act.put, List.setIfInBounds_toArray, List.set_cons_zero, List.set_cons_succ, i64_w, i32_w]
          rfl
        obtain ⟨wn3210, hw⟩ : ∃ x, wn321.alloc (.cells k0 122) = x := ⟨_, rfl⟩
        obtain ⟨b0, hb⟩ : ∃ x, wn321.heap.size = x := ⟨_, rfl⟩
        have h0 : wn3210.heap[b0]? = some (.cells k0 122 (0, 0)) := by rw [← hw, ← hb]; exact blk_new _ _
        have l0 : w2.heap.size ≤ b0 := by rw [← hb]; exact below_size (by assumption)
        replace h3 : wn3210.heap[b3]? = some (.cells k3 83 (0, 0)) := by rw [← hw]; exact blk_alloc h3 _
        replace h2 : wn3210.heap[b2]? = some (.cells k2 5 (0, 0)) := by rw [← hw]; exact blk_alloc h2 _
        replace h1 : wn3210.heap[b1]? = some (.cells k1 3 (0, 0)) := by rw [← hw]; exact blk_alloc h1 _
        rw [hw] at hHeld ⊢
        rw [hb]
        clear hw hb
        refine pure_ (i := 8) (N := some 16) (v := .agg #[.slice (some ⟨b0, 0, none⟩) 16 16, .slice (some ⟨b1, 0, none⟩) 6 6, .slice (some ⟨b2, 0, none⟩) 64 64, .slice (some ⟨b3, 0, none⟩) 12 12]) (a' := ?_) #[true, true, true, true, true, true, true, true, true, false, false] rfl rfl (by kernel_rfl) (fun _ _ _ h => h) (yields_build (by rfl) 36 #[(0, .tmp 8), (1, .tmp 11), (2, .tmp 12), (3, .tmp 15)] rfl _ #[.slice (some ⟨b0, 0, none⟩) 16 16, .slice (some ⟨b1, 0, none⟩) 6 6, .slice (some ⟨b2, 0, none⟩) 64 64, .slice (some ⟨b3, 0, none⟩) 12 12] (by simp only [List.map_toArray, List.map_cons, List.map_nil]; rfl) (by kernel_rfl)) ?_ ?_
        rotate_left
        · simp only [Act.put, List.setIfInBounds_toArray, List.set_cons_zero, List.set_cons_succ, i64_w, i32_w]
          rfl
        refine last_ (i := 9) (N := none) #[true, true, true, true, true, true, true, true, true, true, false] rfl rfl (by kernel_rfl) (by decide) (fun K hK => ?_)
        have hz := blk_below HX2.out.met hHeld
        refine skip_ (by rfl) rfl (run_exec_store rfl rfl rfl (store_row (W := wn3210) (ty := 36) (cells := #[.slice (some ⟨b0, 0, none⟩) 16 16, .slice (some ⟨b1, 0, none⟩) 6 6, .slice (some ⟨b2, 0, none⟩) 64 64, .slice (some ⟨b3, 0, none⟩) 12 12]) hz (by rw [sz_meta]; rfl) rfl (by simp [Value.oneCell']))) ?_
        refine hK.out _ _ ?_
        clear hK K
        refine pure_ (i := 10) (N := some 3) (v := ?_) (a' := ?_) #[true, true, true, true, true, true, true, true, true, true, true] rfl rfl (by kernel_rfl) (fun _ _ _ h => h) (Or.inl ⟨by rfl, ?_⟩) ?_ ?_
        rotate_left
        · intro w'
          go_simp
          with_reducible rfl
        rotate_left
        · simp only [Act.put, List.setIfInBounds_toArray, List.set_cons_zero, List.set_cons_succ, i64_w, i32_w]
          rfl
        refine done_ (by kernel_rfl) ?_
        go_wp2_with fail
        refine bodyPost_ret (results_cell_tmp rfl _ _ (w.heap.size + 1) 36 #[.slice (some ⟨b0, 0, none⟩) 16 16, .slice (some ⟨b1, 0, none⟩) 6 6, .slice (some ⟨b2, 0, none⟩) 64 64, .slice (some ⟨b3, 0, none⟩) 12 12] (0, 0) _ rfl (setRow_heap wn3210 _ _ _ _ _ hz) Try.underlying36 rfl sz_meta) rfl ?_
        exact new_post HX2.out E.out h0 h1 h2 h3 l0 l1 l2 l3 hHeld _
end Go.Proofs.Ytpbijdalfeaheaa.Tf
