/- Walks and plain laws on which the claim stands, several texts joined. -/
import Derived.Test.YtpbijdalfeaheaaM3
import Derived.Scope

/- journal: Room, outside, read. -/
namespace Go.Proofs.Ytpbijdalfeaheaa.Tf
open Go.RowKit Go.Proofs.YtpbijdalfeaheaaW.PrintWords Go.Proofs.YtpbijdalfeaheaaW.PrintLast Go.Proofs.YtpbijdalfeaheaaW.PrintMore
set_option linter.unusedVariables false
set_option linter.unusedSimpArgs false
/-- The journal's struct: its disk, 30 sectors from 1 on, how many times something was written. -/
def jcs (gd : Nat) (seq : Int) : Array Value := #[.pointer (some ⟨gd, 0, none⟩), .int .i64 1, .int .i64 30, .int .u64 seq]
def JAt (W : World) (gj gd : Nat) (seq : Int) : Prop := W.heap[gj]? = some (.cells (jcs gd seq) 69 (0, 0))
theorem JAt.lt {W : World} {gj gd : Nat} {seq : Int} (h : JAt W gj gd seq) : gj < W.heap.size := blk_lt h
theorem JAt.disk {W : World} {gj gd : Nat} {seq : Int} (h : JAt W gj gd seq) : W.cell? ⟨gj, 0, none⟩ = some (.pointer (some ⟨gd, 0, none⟩)) := blk_cell h 0
theorem JAt.from_ {W : World} {gj gd : Nat} {seq : Int} (h : JAt W gj gd seq) : W.cell? ⟨gj, 1, none⟩ = some (.int .i64 1) := blk_cell h 1
theorem JAt.n {W : World} {gj gd : Nat} {seq : Int} (h : JAt W gj gd seq) : W.cell? ⟨gj, 2, none⟩ = some (.int .i64 30) := blk_cell h 2
theorem JAt.seq {W : World} {gj gd : Nat} {seq : Int} (h : JAt W gj gd seq) : W.cell? ⟨gj, 3, none⟩ = some (.int .u64 seq) := blk_cell h 3
theorem JAt.below {W W1 : World} {gj gd : Nat} {seq : Int} (h : JAt W gj gd seq) (hb : Below W.heap.size W W1) : JAt W1 gj gd seq := blk_below h hb
theorem room_any (gj gd : Nat) (seq : Int) (w : World) (h : JAt w gj gd seq) :
    Calls Try.prog 29 #[.pointer (some ⟨gj, 0, none⟩)] w fun e w' => e = .returned (.int .i64 27) ∧ w = w' := by
  have x2 := h.n
  clear h
  go_enter Try.func29, Try.ntmps29
  go_wp2_with fail
  go_ret
  exact ⟨rfl, rfl⟩
set_option maxHeartbeats 4000000 in
set_option maxRecDepth 100000 in
theorem outside_any (B gj gd gs : Nat) (seq : Int) (D : Dk) (i : Int) (w : World) (h : JAt w gj gd seq) (hD : DiskAt w B gd gs D) (h0 : 31 ≤ i) (h1 : i < 88) :
    Calls Try.prog 30 #[.pointer (some ⟨gj, 0, none⟩), .int .i64 i] w fun e w' => e = .returned (.bool true) ∧ Below w.heap.size w w' := by
  have HJ := Lib.hid h
  have HD := Lib.hid hD
  clear h hD
  have d0 : 0 ≤ i := by omega
  have d3 : decide (i < 1) = false := decide_eq_false (by omega)
  go_enter Try.func30, Try.ntmps30
  go_wp2_with fail
  refine start_ (n := 33) (S := (fun W => Below w.heap.size w W)) (ds := []) #[false, false, false, false, false, false, false, false, false, false, false, false, false, false, false, false, false, false, false, false, false, false, false, false, false, false, false, false, false, false, false, false, false] (by kernel_rfl) rfl rfl (below_drew (Below.refl _ _)) (fun hHeld => ?_)
  refine pure_ (i := 0) (N := some 5) (v := ?_) (a' := ?_) #[true, false, false, false, false, false, false, false, false, false, false, false, false, false, false, false, false, false, false, false, false, false, false, false, false, false, false, false, false, false, false, false, false] rfl rfl (by kernel_rfl) (fun _ _ _ h => h) (Or.inl ⟨by rfl, ?_⟩) ?_ ?_
  rotate_left
  · intro w'
    go_simp
    with_reducible rfl
  rotate_left
  · simp only [Act.put, List.setIfInBounds_toArray, List.set_cons_zero, List.set_cons_succ, i64_w, i32_w]
    rfl
  refine pure_ (i := 1) (N := some 6) (v := ?_) (a' := ?_) #[true, true, false, false, false, false, false, false, false, false, false, false, false, false, false, false, false, false, false, false, false, false, false, false, false, false, false, false, false, false, false, false, false] rfl rfl (by kernel_rfl) (fun _ _ _ h => h) (Or.inl ⟨by rfl, ?_⟩) ?_ ?_
  rotate_left
  · intro w'
    go_simp
    with_reducible rfl
  rotate_left
  · simp only [Act.put, List.setIfInBounds_toArray, List.set_cons_zero, List.set_cons_succ, i64_w, i32_w]
    rfl
  refine pure_ (i := 2) (N := some 7) (v := ?_) (a' := ?_) #[true, true, true, false, false, false, false, false, false, false, false, false, false, false, false, false, false, false, false, false, false, false, false, false, false, false, false, false, false, false, false, false, false] rfl rfl (by kernel_rfl) (fun _ _ _ h => h) (Or.inl ⟨by rfl, ?_⟩) ?_ ?_
  rotate_left
  · intro w'
    go_simp
    with_reducible rfl
  rotate_left
  · simp only [Act.put, List.setIfInBounds_toArray, List.set_cons_zero, List.set_cons_succ, i64_w, i32_w]
    rfl
  refine pure_ (i := 3) (N := some 8) (v := ?_) (a' := ?_) #[true, true, true, true, false, false, false, false, false, false, false, false, false, false, false, false, false, false, false, false, false, false, false, false, false, false, false, false, false, false, false, false, false] rfl rfl (by kernel_rfl) (fun _ _ _ h => h) (Or.inl ⟨by rfl, ?_⟩) ?_ ?_
  rotate_left
  · intro w'
    go_simp
    with_reducible rfl
  rotate_left
  · simp only [Act.put, List.setIfInBounds_toArray, List.set_cons_zero, List.set_cons_succ, i64_w, i32_w]
    rfl
  refine pure_ (i := 4) (N := some 9) (v := ?_) (a' := ?_) #[true, true, true, true, true, false, false, false, false, false, false, false, false, false, false, false, false, false, false, false, false, false, false, false, false, false, false, false, false, false, false, false, false] rfl rfl (by kernel_rfl) (fun _ _ _ h => h) (Or.inl ⟨by rfl, ?_⟩) ?_ ?_
  rotate_left
  · intro w'
    go_simp
    with_reducible rfl
  rotate_left
  · simp only [Act.put, List.setIfInBounds_toArray, List.set_cons_zero, List.set_cons_succ, i64_w, i32_w]
    rfl
  refine pure_ (i := 5) (N := some 10) (v := ?_) (a' := ?_) #[true, true, true, true, true, true, false, false, false, false, false, false, false, false, false, false, false, false, false, false, false, false, false, false, false, false, false, false, false, false, false, false, false] rfl rfl (by kernel_rfl) (fun _ _ _ h => h) (Or.inl ⟨by rfl, ?_⟩) ?_ ?_
  rotate_left
  · intro w'
    go_simp
    with_reducible rfl
  rotate_left
  · simp only [Act.put, List.setIfInBounds_toArray, List.set_cons_zero, List.set_cons_succ, i64_w, i32_w]
    rfl
  refine pure_ (i := 6) (N := some 11) (v := ?_) (a' := ?_) #[true, true, true, true, true, true, true, false, false, false, false, false, false, false, false, false, false, false, false, false, false, false, false, false, false, false, false, false, false, false, false, false, false] rfl rfl (by kernel_rfl) (fun _ _ _ h => h) (Or.inl ⟨by rfl, ?_⟩) ?_ ?_
  rotate_left
  · intro w'
    go_simp
    with_reducible rfl
  rotate_left
  · simp only [Act.put, List.setIfInBounds_toArray, List.set_cons_zero, List.set_cons_succ, i64_w, i32_w]
    rfl
  refine take_ (i := 7) (N := some 12) (v := ?_) (a' := ?_) #[true, true, true, true, true, true, true, true, false, false, false, false, false, false, false, false, false, false, false, false, false, false, false, false, false, false, false, false, false, false, false, false, false] rfl rfl (by kernel_rfl) (fun _ _ _ h => h) (Or.inl ⟨by rfl, ?_⟩) hHeld ?_ ?_
  rotate_left
  · rintro w' hS
    have y1 := hS.cell (p := ⟨gj, 0, none⟩) HJ.out.lt
    rw [HJ.out.disk] at y1
    go_simp
    with_reducible rfl
  rotate_left
  · simp only [Act.put, List.setIfInBounds_toArray, List.set_cons_zero, List.set_cons_succ, i64_w, i32_w]
    rfl
  refine one_ (i := 8) (N := some 13) #[true, true, true, true, true, true, true, true, true, false, false, false, false, false, false, false, false, false, false, false, false, false, false, false, false, false, false, false, false, false, false, false, false] rfl rfl (by kernel_rfl) (by decide) (fun K hK => ?_)
  refine goes_ Try.func19 (by kernel_rfl) rfl #[.pointer (some ⟨gd, 0, none⟩)] (by rfl) rfl rfl (by (try simp only [List.map_toArray, List.map_cons, List.map_nil]); first | done | rfl) ?_
  with_reducible refine (len_any B gd gs D _ (HD.out.below hHeld)).mono ?_
  rintro e w' ⟨rfl, rfl⟩
  refine ⟨_, rfl, ?_⟩
  refine hK.out _ _ (hHeld) (fun hHeld => ?_)
  clear hK K
  refine norm_ (a' := ?_) ?_ ?_
  rotate_left
  · show Act.put _ (some 13) _ = _
    simp only [Act.put, List.setIfInBounds_toArray, List.set_cons_zero, List.set_cons_succ, i64_w, i32_w]
    rfl
  refine pure_ (i := 9) (N := some 14) (v := ?_) (a' := ?_) #[true, true, true, true, true, true, true, true, true, true, false, false, false, false, false, false, false, false, false, false, false, false, false, false, false, false, false, false, false, false, false, false, false] rfl rfl (by kernel_rfl) (fun _ _ _ h => h) (Or.inl ⟨by rfl, ?_⟩) ?_ ?_
  rotate_left
  · intro w'
    go_simp
    with_reducible rfl
  rotate_left
  · simp only [Act.put, List.setIfInBounds_toArray, List.set_cons_zero, List.set_cons_succ, i64_w, i32_w]
    rfl
  refine pure_ (i := 10) (N := some 15) (v := ?_) (a' := ?_) #[true, true, true, true, true, true, true, true, true, true, true, false, false, false, false, false, false, false, false, false, false, false, false, false, false, false, false, false, false, false, false, false, false] rfl rfl (by kernel_rfl) (fun _ _ _ h => h) (Or.inl ⟨by rfl, ?_⟩) ?_ ?_
  rotate_left
  · intro w'
    go_simp
    with_reducible rfl
  rotate_left
  · simp only [Act.put, List.setIfInBounds_toArray, List.set_cons_zero, List.set_cons_succ, i64_w, i32_w]
    rfl
  refine pure_ (i := 11) (N := some 16) (v := ?_) (a' := ?_) #[true, true, true, true, true, true, true, true, true, true, true, true, false, false, false, false, false, false, false, false, false, false, false, false, false, false, false, false, false, false, false, false, false] rfl rfl (by kernel_rfl) (fun _ _ _ h => h) (Or.inl ⟨by rfl, ?_⟩) ?_ ?_
  rotate_left
  · intro w'
    go_simp
    with_reducible rfl
  rotate_left
  · simp only [Act.put, List.setIfInBounds_toArray, List.set_cons_zero, List.set_cons_succ, i64_w, i32_w]
    rfl
  refine pure_ (i := 12) (N := some 17) (v := ?_) (a' := ?_) #[true, true, true, true, true, true, true, true, true, true, true, true, true, false, false, false, false, false, false, false, false, false, false, false, false, false, false, false, false, false, false, false, false] rfl rfl (by kernel_rfl) (fun _ _ _ h => h) (Or.inl ⟨by rfl, ?_⟩) ?_ ?_
  rotate_left
  · intro w'
    go_simp
    with_reducible rfl
  rotate_left
  · simp only [Act.put, List.setIfInBounds_toArray, List.set_cons_zero, List.set_cons_succ, i64_w, i32_w]
    rfl
  refine pure_ (i := 13) (N := some 18) (v := ?_) (a' := ?_) #[true, true, true, true, true, true, true, true, true, true, true, true, true, true, false, false, false, false, false, false, false, false, false, false, false, false, false, false, false, false, false, false, false] rfl rfl (by kernel_rfl) (fun _ _ _ h => h) (Or.inl ⟨by rfl, ?_⟩) ?_ ?_
  rotate_left
  · intro w'
    go_simp
    with_reducible rfl
  rotate_left
  · simp only [Act.put, List.setIfInBounds_toArray, List.set_cons_zero, List.set_cons_succ, i64_w, i32_w]
    rfl
  refine pure_ (i := 14) (N := some 19) (v := ?_) (a' := ?_) #[true, true, true, true, true, true, true, true, true, true, true, true, true, true, true, false, false, false, false, false, false, false, false, false, false, false, false, false, false, false, false, false, false] rfl rfl (by kernel_rfl) (fun _ _ _ h => h) (Or.inl ⟨by rfl, ?_⟩) ?_ ?_
  rotate_left
  · intro w'
    go_simp
    with_reducible rfl
  rotate_left
  · simp only [Act.put, List.setIfInBounds_toArray, List.set_cons_zero, List.set_cons_succ, i64_w, i32_w]
    rfl
  refine pure_ (i := 15) (N := some 20) (v := ?_) (a' := ?_) #[true, true, true, true, true, true, true, true, true, true, true, true, true, true, true, true, false, false, false, false, false, false, false, false, false, false, false, false, false, false, false, false, false] rfl rfl (by kernel_rfl) (fun _ _ _ h => h) (Or.inl ⟨by rfl, ?_⟩) ?_ ?_
  rotate_left
  · intro w'
    go_simp
    with_reducible rfl
  rotate_left
  · simp only [Act.put, List.setIfInBounds_toArray, List.set_cons_zero, List.set_cons_succ, i64_w, i32_w]
    rfl
  refine take_ (i := 16) (N := some 21) (v := ?_) (a' := ?_) #[true, true, true, true, true, true, true, true, true, true, true, true, true, true, true, true, true, false, false, false, false, false, false, false, false, false, false, false, false, false, false, false, false] rfl rfl (by kernel_rfl) (fun _ _ _ h => h) (Or.inl ⟨by rfl, ?_⟩) hHeld ?_ ?_
  rotate_left
  · rintro w' hS
    have y1 := hS.cell (p := ⟨gj, 1, none⟩) HJ.out.lt
    rw [HJ.out.from_] at y1
    go_simp
    with_reducible rfl
  rotate_left
  · simp only [Act.put, List.setIfInBounds_toArray, List.set_cons_zero, List.set_cons_succ, i64_w, i32_w]
    rfl
  refine pure_ (i := 17) (N := some 22) (v := ?_) (a' := ?_) #[true, true, true, true, true, true, true, true, true, true, true, true, true, true, true, true, true, true, false, false, false, false, false, false, false, false, false, false, false, false, false, false, false] rfl rfl (by kernel_rfl) (fun _ _ _ h => h) (Or.inl ⟨by rfl, ?_⟩) ?_ ?_
  rotate_left
  · intro w'
    go_simp
    with_reducible rfl
  rotate_left
  · simp only [Act.put, List.setIfInBounds_toArray, List.set_cons_zero, List.set_cons_succ, i64_w, i32_w]
    rfl
  refine pure_ (i := 18) (N := some 23) (v := ?_) (a' := ?_) #[true, true, true, true, true, true, true, true, true, true, true, true, true, true, true, true, true, true, true, false, false, false, false, false, false, false, false, false, false, false, false, false, false] rfl rfl (by kernel_rfl) (fun _ _ _ h => h) (Or.inl ⟨by rfl, ?_⟩) ?_ ?_
  rotate_left
  · intro w'
    go_simp
    with_reducible rfl
  rotate_left
  · simp only [Act.put, List.setIfInBounds_toArray, List.set_cons_zero, List.set_cons_succ, i64_w, i32_w]
    rfl
  refine pure_ (i := 19) (N := some 24) (v := ?_) (a' := ?_) #[true, true, true, true, true, true, true, true, true, true, true, true, true, true, true, true, true, true, true, true, false, false, false, false, false, false, false, false, false, false, false, false, false] rfl rfl (by kernel_rfl) (fun _ _ _ h => h) (Or.inl ⟨by rfl, ?_⟩) ?_ ?_
  rotate_left
  · intro w'
    go_simp
    with_reducible rfl
  rotate_left
  · simp only [Act.put, List.setIfInBounds_toArray, List.set_cons_zero, List.set_cons_succ, i64_w, i32_w]
    rfl
  refine pure_ (i := 20) (N := some 25) (v := ?_) (a' := ?_) #[true, true, true, true, true, true, true, true, true, true, true, true, true, true, true, true, true, true, true, true, true, false, false, false, false, false, false, false, false, false, false, false, false] rfl rfl (by kernel_rfl) (fun _ _ _ h => h) (Or.inl ⟨by rfl, ?_⟩) ?_ ?_
  rotate_left
  · intro w'
    go_simp
    with_reducible rfl
  rotate_left
  · simp only [Act.put, List.setIfInBounds_toArray, List.set_cons_zero, List.set_cons_succ, i64_w, i32_w]
    rfl
  refine pure_ (i := 21) (N := some 26) (v := ?_) (a' := ?_) #[true, true, true, true, true, true, true, true, true, true, true, true, true, true, true, true, true, true, true, true, true, true, false, false, false, false, false, false, false, false, false, false, false] rfl rfl (by kernel_rfl) (fun _ _ _ h => h) (Or.inl ⟨by rfl, ?_⟩) ?_ ?_
  rotate_left
  · intro w'
    go_simp
    with_reducible rfl
  rotate_left
  · simp only [Act.put, List.setIfInBounds_toArray, List.set_cons_zero, List.set_cons_succ, i64_w, i32_w]
    rfl
  refine pure_ (i := 22) (N := some 27) (v := ?_) (a' := ?_) #[true, true, true, true, true, true, true, true, true, true, true, true, true, true, true, true, true, true, true, true, true, true, true, false, false, false, false, false, false, false, false, false, false] rfl rfl (by kernel_rfl) (fun _ _ _ h => h) (Or.inl ⟨by rfl, ?_⟩) ?_ ?_
  rotate_left
  · intro w'
    go_simp
    with_reducible rfl
  rotate_left
  · simp only [Act.put, List.setIfInBounds_toArray, List.set_cons_zero, List.set_cons_succ, i64_w, i32_w]
    rfl
  refine take_ (i := 23) (N := some 28) (v := ?_) (a' := ?_) #[true, true, true, true, true, true, true, true, true, true, true, true, true, true, true, true, true, true, true, true, true, true, true, true, false, false, false, false, false, false, false, false, false] rfl rfl (by kernel_rfl) (fun _ _ _ h => h) (Or.inl ⟨by rfl, ?_⟩) hHeld ?_ ?_
  rotate_left
  · rintro w' hS
    have y1 := hS.cell (p := ⟨gj, 1, none⟩) HJ.out.lt
    rw [HJ.out.from_] at y1
    go_simp
    with_reducible rfl
  rotate_left
  · simp only [Act.put, List.setIfInBounds_toArray, List.set_cons_zero, List.set_cons_succ, i64_w, i32_w]
    rfl
  refine pure_ (i := 24) (N := some 29) (v := ?_) (a' := ?_) #[true, true, true, true, true, true, true, true, true, true, true, true, true, true, true, true, true, true, true, true, true, true, true, true, true, false, false, false, false, false, false, false, false] rfl rfl (by kernel_rfl) (fun _ _ _ h => h) (Or.inl ⟨by rfl, ?_⟩) ?_ ?_
  rotate_left
  · intro w'
    go_simp
    with_reducible rfl
  rotate_left
  · simp only [Act.put, List.setIfInBounds_toArray, List.set_cons_zero, List.set_cons_succ, i64_w, i32_w]
    rfl
  refine pure_ (i := 25) (N := some 30) (v := ?_) (a' := ?_) #[true, true, true, true, true, true, true, true, true, true, true, true, true, true, true, true, true, true, true, true, true, true, true, true, true, true, false, false, false, false, false, false, false] rfl rfl (by kernel_rfl) (fun _ _ _ h => h) (Or.inl ⟨by rfl, ?_⟩) ?_ ?_
  rotate_left
  · intro w'
    go_simp
    with_reducible rfl
  rotate_left
  · simp only [Act.put, List.setIfInBounds_toArray, List.set_cons_zero, List.set_cons_succ, i64_w, i32_w]
    rfl
  refine pure_ (i := 26) (N := some 31) (v := ?_) (a' := ?_) #[true, true, true, true, true, true, true, true, true, true, true, true, true, true, true, true, true, true, true, true, true, true, true, true, true, true, true, false, false, false, false, false, false] rfl rfl (by kernel_rfl) (fun _ _ _ h => h) (Or.inl ⟨by rfl, ?_⟩) ?_ ?_
  rotate_left
  · intro w'
    go_simp
    with_reducible rfl
  rotate_left
  · simp only [Act.put, List.setIfInBounds_toArray, List.set_cons_zero, List.set_cons_succ, i64_w, i32_w]
    rfl
  refine take_ (i := 27) (N := some 32) (v := ?_) (a' := ?_) #[true, true, true, true, true, true, true, true, true, true, true, true, true, true, true, true, true, true, true, true, true, true, true, true, true, true, true, true, false, false, false, false, false] rfl rfl (by kernel_rfl) (fun _ _ _ h => h) (Or.inl ⟨by rfl, ?_⟩) hHeld ?_ ?_
  rotate_left
  · rintro w' hS
    have y1 := hS.cell (p := ⟨gj, 2, none⟩) HJ.out.lt
    rw [HJ.out.n] at y1
    go_simp
    with_reducible rfl
  rotate_left
  · simp only [Act.put, List.setIfInBounds_toArray, List.set_cons_zero, List.set_cons_succ, i64_w, i32_w]
    rfl
  refine pure_ (i := 28) (N := some 33) (v := ?_) (a' := ?_) #[true, true, true, true, true, true, true, true, true, true, true, true, true, true, true, true, true, true, true, true, true, true, true, true, true, true, true, true, true, false, false, false, false] rfl rfl (by kernel_rfl) (fun _ _ _ h => h) (Or.inl ⟨by rfl, ?_⟩) ?_ ?_
  rotate_left
  · intro w'
    go_simp
    with_reducible rfl
  rotate_left
  · simp only [Act.put, List.setIfInBounds_toArray, List.set_cons_zero, List.set_cons_succ, i64_w, i32_w]
    rfl
  refine pure_ (i := 29) (N := some 34) (v := ?_) (a' := ?_) #[true, true, true, true, true, true, true, true, true, true, true, true, true, true, true, true, true, true, true, true, true, true, true, true, true, true, true, true, true, true, false, false, false] rfl rfl (by kernel_rfl) (fun _ _ _ h => h) (Or.inl ⟨by rfl, ?_⟩) ?_ ?_
  rotate_left
  · intro w'
    go_simp
    with_reducible rfl
  rotate_left
  · simp only [Act.put, List.setIfInBounds_toArray, List.set_cons_zero, List.set_cons_succ, i64_w, i32_w]
    rfl
  refine pure_ (i := 30) (N := some 35) (v := ?_) (a' := ?_) #[true, true, true, true, true, true, true, true, true, true, true, true, true, true, true, true, true, true, true, true, true, true, true, true, true, true, true, true, true, true, true, false, false] rfl rfl (by kernel_rfl) (fun _ _ _ h => h) (Or.inl ⟨by rfl, ?_⟩) ?_ ?_
  rotate_left
  · intro w'
    go_simp
    with_reducible rfl
  rotate_left
  · simp only [Act.put, List.setIfInBounds_toArray, List.set_cons_zero, List.set_cons_succ, i64_w, i32_w]
    rfl
  refine pure_ (i := 31) (N := some 36) (v := ?_) (a' := ?_) #[true, true, true, true, true, true, true, true, true, true, true, true, true, true, true, true, true, true, true, true, true, true, true, true, true, true, true, true, true, true, true, true, false] rfl rfl (by kernel_rfl) (fun _ _ _ h => h) (Or.inl ⟨by rfl, ?_⟩) ?_ ?_
  rotate_left
  · intro w'
    go_simp
    with_reducible rfl
  rotate_left
  · simp only [Act.put, List.setIfInBounds_toArray, List.set_cons_zero, List.set_cons_succ, i64_w, i32_w]
    rfl
  refine pure_ (i := 32) (N := some 4) (v := ?_) (a' := ?_) #[true, true, true, true, true, true, true, true, true, true, true, true, true, true, true, true, true, true, true, true, true, true, true, true, true, true, true, true, true, true, true, true, true] rfl rfl (by kernel_rfl) (fun _ _ _ h => h) (Or.inl ⟨by rfl, ?_⟩) ?_ ?_
  rotate_left
  · intro w'
    go_simp
    with_reducible rfl
  rotate_left
  · simp only [Act.put, List.setIfInBounds_toArray, List.set_cons_zero, List.set_cons_succ, i64_w, i32_w]
    rfl
  refine done_ (by kernel_rfl) ?_
  go_wp2_with fail
  go_ret
  have e : decide (wrap64 31 ≤ i) = true := decide_eq_true (by have : wrap64 31 = 31 := by unfold wrap64; omega
                                                               omega)
  refine ⟨?_, hHeld⟩
  show Ending.returned (.bool (decide (wrap64 31 ≤ i))) = _
  rw [e]
set_option maxHeartbeats 4000000 in
set_option maxRecDepth 100000 in
theorem jread_any (B gj gd gs : Nat) (seq : Int) (D : Dk) (i : Nat) (w : World) (h : JAt w gj gd seq) (hD : DiskAt w B gd gs D) (hd : D.dead = false) (hi : i < 88) :
    Calls Try.prog 41 #[.pointer (some ⟨gj, 0, none⟩), .int .i64 i] w fun e w' => ∃ v, e = .returned v ∧ Kd.R (Kd.int .u8) 5 w' w.heap.size (fun _ => True) v (D.secs.getD i []) ∧ Below w.heap.size w w' := by
  have x0 := h.disk
  have HD := Lib.hid hD
  clear h hD
  go_enter Try.func41, Try.ntmps41
  go_wp2_with fail
  refine (read_yes B gd gs D i w HD.out hd hi).mono ?_
  rintro e w1 ⟨v, rfl, hR, hB⟩
  have HR := Lib.hid hR
  have HB := Lib.hid hB
  clear hR hB x0
  go_wp2_with fail
  go_ret
  exact ⟨v, rfl, HR.out, HB.out⟩
end Go.Proofs.Ytpbijdalfeaheaa.Tf

/- journal: head. -/
namespace Go.Proofs.Ytpbijdalfeaheaa.Tf
open Go.RowKit Go.Proofs.YtpbijdalfeaheaaW.PrintWords Go.Proofs.YtpbijdalfeaheaaW.PrintLast Go.Proofs.YtpbijdalfeaheaaW.PrintMore
set_option linter.unusedVariables false
set_option linter.unusedSimpArgs false
/-- A head's bytes. -/
def headX (seq count : Int) : List Int := (putL seq 8 ++ putL count 2) ++ List.replicate 50 0
def headB (seq count : Int) : List Int := sealL (headX seq count)
theorem headX_len (seq count : Int) : (headX seq count).length = 60 := by simp [headX, putL_len]
theorem headB_len (seq count : Int) : (headB seq count).length = 64 := by rw [headB, sealL_len, headX_len]
theorem putL_byte (n : Int) : ∀ k, ∀ x ∈ putL n k, 0 ≤ x ∧ x < 256 := by
  intro k
  induction k with
  | zero => intro x hx; simp [putL] at hx
  | succ k ih =>
    intro x hx
    rw [putL, List.mem_append, List.mem_singleton] at hx
    rcases hx with hx | hx
    · exact ih x hx
    · rw [hx]; exact ⟨Int.emod_nonneg _ (by decide), Int.emod_lt_of_pos _ (by decide)⟩
theorem headX_byte (seq count : Int) : ∀ x ∈ headX seq count, 0 ≤ x ∧ x < 256 := by
  intro x hx
  unfold headX at hx
  rcases List.mem_append.1 hx with hx | hx
  · rcases List.mem_append.1 hx with hx | hx
    · exact putL_byte _ _ x hx
    · exact putL_byte _ _ x hx
  · rw [List.eq_of_mem_replicate hx]; omega
theorem sealN (A0 : Option Addr) (c0 n : Nat) (xs : List Int) (w : World) (hn : xs.length = n) (hr : Kd.C (Kd.int .u8) w A0 n xs) (hb : ∀ x ∈ xs, 0 ≤ x ∧ x < 256) (hc0 : n ≤ c0) (h1 : n ≤ 3000) :
    Calls Try.prog 44 #[.slice A0 n c0] w fun e w' => ∃ v, e = .returned v ∧ Kd.R (Kd.int .u8) 5 w' w.heap.size (fun _ => True) v (sealL xs) ∧ Below w.heap.size w w' := by
  subst hn; exact seal_any A0 c0 xs w hr hb hc0 h1
theorem fillN (A0 : Option Addr) (c0 n : Nat) (xs : List Int) (m : Nat) (w : World) (hn : xs.length = n) (hr : Kd.C (Kd.int .u8) w A0 n xs) (h1 : n ≤ m) (h2 : m ≤ 4096) :
    Calls Try.prog 43 #[.slice A0 n c0, .int .i64 m] w fun e w' => ∃ v, e = .returned (.tuple #[v, .int .i64 0]) ∧ Kd.R (Kd.int .u8) 5 w' w.heap.size (fun _ => True) v (xs ++ List.replicate (m - n) 0) ∧ Below w.heap.size w w' := by
  subst hn; exact fill_any A0 c0 xs m w hr h1 h2
/-- One number, laid. -/
theorem lay_one (size : Nat) (n : Int) (W : World) (g : Nat) (hg : W.heap.size = g) (h1 : 1 ≤ size) (h8 : size ≤ 8) (h0 : 0 ≤ n) (hn : n < 256 ^ size) :
    Calls Try.prog 42 #[.int .i64 size, .slice (some ⟨g, 0, none⟩) 1 1] (W.alloc (.cells #[.int .u64 n] 23)) fun e w' => ∃ A c, e = .returned (.tuple #[.slice A size c, .int .i64 0]) ∧ size ≤ c ∧ Kd.R (Kd.int .u8) 5 w' W.heap.size (fun _ => True) (.slice A size c) (putL n size) ∧ Below W.heap.size W w' := by
  subst hg
  have h := lay_any size (some ⟨W.heap.size, 0, none⟩) 1 [n] (W.alloc (.cells (nums .u64 [n]).toArray 23)) h1 h8 (by simp; omega) (C_of_blk (blk_new W _) (by simp)) (fun m hm => by rw [List.mem_singleton.1 hm]; exact ⟨h0, hn⟩)
  refine h.mono ?_
  rintro e w' ⟨v, rfl, hR, hB⟩
  have e1 : layL size [n] = putL n size := by simp [layL]
  rw [e1] at hR
  obtain ⟨A, c, rfl, hc, _⟩ := Kd.R_reads hR
  rw [putL_len] at hR hc ⊢
  exact ⟨A, c, rfl, hc, Kd.R_lower hR (by simp), below_step (below_alloc (Below.refl _ _) _) hB⟩
theorem built_patch0 (i : Int) (A : Option Addr) (n c : Nat) : Try.prog.built 50 [(0, .int .i64 i), (1, .slice A n c)] = some #[.int .i64 i, .slice A n c, .int .u16 0] := by kernel_rfl
theorem sz_patch : (Try.prog.info? 50).map (·.size) = some 3 := by kernel_rfl
/-- A result that lies in memory. -/
theorem results_cell {fn : Func} {p : Tmp} {ty : TypeId} (h : fn.results = #[.cell p ty]) (tmps : Array Value) (w : World) (g : Nat) (t : TypeId) (cs : Array Value) (d : TypeDesc)
    (hp : tmps.getD p undef = .pointer (some ⟨g, 0, none⟩)) (hg : w.heap[g]? = some (.cells cs t (0, 0)))
    (hu : Try.prog.underlying ty = some d) (hd : d.isRow = true) (hi : (Try.prog.info? ty).map (·.size) = some cs.size) :
    (results fn tmps).run Try.prog w = .ok (.agg cs) w := by
  have hp' : tmps[p]?.getD undef = .pointer (some ⟨g, 0, none⟩) := by simpa using hp
  have hl := run_loadVar_mid (P := Try.prog) w g 0 ty cs.toList d (fun j v hj => by rw [Nat.zero_add, cell_of_row w g j cs t (0, 0) hg]; simpa using hj) hu hd (by rw [hi, Array.length_toList])
  simp [results, h, hp', asAddr, hl]
set_option maxHeartbeats 8000000 in
set_option maxRecDepth 100000 in
theorem head_any (gj gd : Nat) (sq seq count : Int) (w : World) (h : JAt w gj gd sq) (hs : 0 ≤ seq ∧ seq < 256 ^ 8) (hc : 0 ≤ count ∧ count < 65536) :
    Calls Try.prog 22 #[.pointer (some ⟨gj, 0, none⟩), .int .u64 seq, .int .i64 count] w fun e w' => ∃ ad c, e = .returned (patchV 1 (some ad) 64 c) ∧ 64 ≤ c ∧ Kd.R (Kd.int .u8) 5 w' w.heap.size (fun _ => True) (.slice (some ad) 64 c) (headB seq count) ∧ Below w.heap.size w w' := by
  have HJ := Lib.hid h
  have Hs := Lib.hid hs
  have Hc := Lib.hid hc
  have hcv : IntKind.u64.wrap count = count := by simp [IntKind.wrap, IntKind.bits, IntKind.signed]; omega
  clear h hs hc
  go_enter Try.func22, Try.ntmps22
  go_wp2_with fail
  obtain ⟨w1, hw1⟩ : ∃ w1, w.alloc (Obj.cells #[.int .i64 0, .slice none 0 0, .int .u16 0] 50) = w1 := ⟨_, rfl⟩
  have hB1 : Below w.heap.size w w1 := by rw [← hw1]; exact below_alloc (Below.refl _ _) _
  have hz1 : w1.heap[w.heap.size]? = some (.cells #[.int .i64 0, .slice none 0 0, .int .u16 0] 50 (0, 0)) := by rw [← hw1]; exact blk_new _ _
  have hg1 : w1.heap.size = w.heap.size + 1 := by rw [← hw1]; simp
  rw [hw1]
  refine (lay_one 8 seq w1 _ hg1 (by omega) (by omega) Hs.out.1 Hs.out.2).mono ?_
  rintro e w2 ⟨A2, c2, rfl, hc2, hR2, hB2⟩
  have HJ2 := Lib.hid ((HJ.out.below hB1).below hB2)
  have HR2 := Lib.hid hR2
  have HB2 := Lib.hid (below_step hB1 hB2)
  have hz2 := Lib.hid (blk_below hz1 hB2)
  have hs1 := Lib.hid hg1
  clear hw1 hB1 hz1 hg1 hR2 hB2
  go_wp2_with fail
  refine (lay_one 2 count w2 _ rfl (by omega) (by omega) Hc.out.1 (Int.lt_of_lt_of_le Hc.out.2 (by decide))).mono ?_
  rintro e w3 ⟨A3, c3, rfl, hc3, hR3, hB3⟩
  have hR2 := Kd.R_below HR2.out hB3
  have hsz : w1.heap.size ≤ w3.heap.size := by have := HB2.out.size; have := hB3.size; have := hs1.out; have := blk_lt hz2.out; omega
  obtain ⟨v4, w4, hap, hR4, hg4⟩ := (plain_int .u8).append w3 w1.heap.size 33 33 5 (.int .u8 0) 1 Try.underlying33 info_u8 rfl (by decide) (.slice A2 8 c2) (putL seq 8) (putL count 2) hR2 A3 2 c3 (by decide) ((Kd.R_reads' hR3).1 ▸ (Kd.R_reads' hR3).2.2) (by rw [putL_len]; decide) (by rw [putL_len]; unfold maxLen; omega) hsz
  obtain ⟨A4, c4, rfl, hc4, hC4⟩ := Kd.R_reads hR4
  have hl4 : (putL seq 8 ++ putL count 2).length = 10 := by simp [putL_len]
  rw [hl4] at hap hC4 hc4
  have HC4 := Lib.hid hC4
  have HB4 := Lib.hid (pw_below_grown (below_step HB2.out hB3) _ (below_size (below_step HB2.out hB3)) hg4 (fun k hk => by have h1 := R_base' hR2 k hk; have h2 := hs1.out; omega))
  have hne : some w.heap.size ≠ (Value.slice A2 8 c2).ownBlock := fun e => by have h1 := R_base' hR2 _ e.symm; have h2 := hs1.out; omega
  have hnj : some gj ≠ (Value.slice A2 8 c2).ownBlock := fun e => by have h1 := R_base' hR2 _ e.symm; have h2 := hs1.out; have h3 := HJ.out.lt; omega
  have hz4 := Lib.hid (blk_grown (blk_below hz2.out hB3) hg4 hne)
  have HJ4 := Lib.hid (show JAt w4 gj gd sq from blk_grown (blk_below HJ2.out hB3) hg4 hnj)
  have Hap := Lib.hid hap
  have Hl4 := Lib.hid hl4
  clear hR3 hB3 hR2 hap hR4 hg4 hC4 hne hnj hsz hl4 hcv
  go_wp2_with (first | ((with_reducible refine gate_builtin (b := .append) (xs := #[.tmp 27, .tmp 28]) rfl ?_); at_builtin; refine wpList_append_eq rfl (.tmp 27) (.tmp 28) 33 rfl _ _ _ rfl rfl Hap.out ?_))
  refine (fillN A4 c4 10 _ 60 w4 Hl4.out HC4.out (by omega) (by omega)).mono ?_
  rintro e w5 ⟨v5, rfl, hR5, hB5⟩
  have hX : (putL seq 8 ++ putL count 2) ++ List.replicate (60 - 10) (0 : Int) = headX seq count := rfl
  rw [hX] at hR5
  obtain ⟨A5, c5, rfl, hc5, hC5⟩ := Kd.R_reads hR5
  rw [headX_len] at hc5 hC5 ⊢
  have HC5 := Lib.hid hC5
  have HB5 := Lib.hid (below_step HB4.out hB5)
  have hz5 := Lib.hid (blk_below hz4.out hB5)
  have HJ6 := Lib.hid (HJ4.out.below hB5)
  clear hX hR5 hC5 hB5
  go_wp2_with fail
  obtain ⟨w6, hw6⟩ : ∃ w6 : World, w6 = w5 := ⟨_, rfl⟩
  subst hw6
  have Hlen := Lib.hid (headX_len seq count)
  have Hby := Lib.hid (headX_byte seq count)
  have Hseal := Lib.hid (show (sealL (headX seq count)).length = 64 from headB_len seq count)
  refine start_ (n := 8) (S := (fun W => Below w6.heap.size w6 W)) (ds := [7]) #[false, false, false, false, false, false, false, false] (by kernel_rfl) rfl rfl (below_drew (Below.refl _ _)) (fun hHeld => ?_)
  refine pure_ (i := 0) (N := some 33) (v := ?_) (a' := ?_) #[true, false, false, false, false, false, false, false] rfl rfl (by kernel_rfl) (fun _ _ _ h => h) (Or.inl ⟨by rfl, ?_⟩) ?_ ?_
  rotate_left
  · intro w'
    go_simp
    with_reducible rfl
  rotate_left
  · simp only [Act.put, List.setIfInBounds_toArray, List.set_cons_zero, List.set_cons_succ, i64_w, i32_w]
    rfl
  refine pure_ (i := 1) (N := some 34) (v := ?_) (a' := ?_) #[true, true, false, false, false, false, false, false] rfl rfl (by kernel_rfl) (fun _ _ _ h => h) (Or.inl ⟨by rfl, ?_⟩) ?_ ?_
  rotate_left
  · intro w'
    go_simp
    with_reducible rfl
  rotate_left
  · simp only [Act.put, List.setIfInBounds_toArray, List.set_cons_zero, List.set_cons_succ, i64_w, i32_w]
    rfl
  refine pure_ (i := 2) (N := some 35) (v := ?_) (a' := ?_) #[true, true, true, false, false, false, false, false] rfl rfl (by kernel_rfl) (fun _ _ _ h => h) (Or.inl ⟨by rfl, ?_⟩) ?_ ?_
  rotate_left
  · intro w'
    go_simp
    with_reducible rfl
  rotate_left
  · simp only [Act.put, List.setIfInBounds_toArray, List.set_cons_zero, List.set_cons_succ, i64_w, i32_w]
    rfl
  refine take_ (i := 3) (N := some 36) (v := ?_) (a' := ?_) #[true, true, true, true, false, false, false, false] rfl rfl (by kernel_rfl) (fun _ _ _ h => h) (Or.inl ⟨by rfl, ?_⟩) hHeld ?_ ?_
  rotate_left
  · rintro w' hS
    have y1 := hS.cell (p := ⟨gj, 1, none⟩) HJ6.out.lt
    rw [HJ6.out.from_] at y1
    go_simp
    with_reducible rfl
  rotate_left
  · simp only [Act.put, List.setIfInBounds_toArray, List.set_cons_zero, List.set_cons_succ, i64_w, i32_w]
    rfl
  refine pure_ (i := 4) (N := some 37) (v := ?_) (a' := ?_) #[true, true, true, true, true, false, false, false] rfl rfl (by kernel_rfl) (fun _ _ _ h => h) (Or.inl ⟨by rfl, ?_⟩) ?_ ?_
  rotate_left
  · intro w'
    go_simp
    with_reducible rfl
  rotate_left
  · simp only [Act.put, List.setIfInBounds_toArray, List.set_cons_zero, List.set_cons_succ, i64_w, i32_w]
    rfl
  refine one_ (i := 5) (N := some 38) #[true, true, true, true, true, true, false, false] rfl rfl (by kernel_rfl) (by decide) (fun K hK => ?_)
  refine goes_ Try.func44 (by kernel_rfl) rfl #[.slice A5 60 c5] (by rfl) rfl rfl (by (try simp only [List.map_toArray, List.map_cons, List.map_nil]); first | done | rfl) ?_
  with_reducible refine (sealN A5 c5 60 _ w6.drew Hlen.out (Kd.C_below HC5.out hHeld) Hby.out (by omega) (by omega)).mono ?_
  rintro e w7 ⟨v7, rfl, hR7, hB7⟩
  obtain ⟨A7, c7, rfl, hc7, _⟩ := Kd.R_reads hR7
  rw [Hseal.out] at hR7 hc7 ⊢
  have HR7 := Lib.hid hR7
  have HB7 := Lib.hid hB7
  have hc7' := Lib.hid hc7
  clear hR7 hB7 hc7
  refine ⟨_, rfl, ?_⟩
  refine hK.out _ _ (below_step hHeld HB7.out) (fun hHeld => ?_)
  clear hK K
  refine norm_ (a' := ?_) ?_ ?_
  rotate_left
  · show Act.put _ (some 38) _ = _
    simp only [Act.put, List.setIfInBounds_toArray, List.set_cons_zero, List.set_cons_succ, i64_w, i32_w]
    rfl
  refine pure_ (i := 6) (N := some 39) (v := ?_) (a' := ?_) #[true, true, true, true, true, true, true, false] rfl rfl (by kernel_rfl) (fun _ _ _ h => h) (Or.inl ⟨by rfl, ?_⟩) ?_ ?_
  rotate_left
  · intro w'
    go_simp
    with_reducible rfl
  rotate_left
  · simp only [Act.put, List.setIfInBounds_toArray, List.set_cons_zero, List.set_cons_succ, i64_w, i32_w]
    rfl
  refine last_ (i := 7) (N := none) #[true, true, true, true, true, true, true, true] rfl rfl (by kernel_rfl) (by decide) (fun K hK => ?_)
  refine skip_ (by rfl) rfl (run_exec_store rfl rfl rfl (store_row (W := w7) (ty := 50) (cells := #[.int .i64 1, .slice A7 64 c7, .int .u16 0]) (blk_below hz5.out hHeld) (by rw [sz_patch]; rfl) rfl (by simp [Value.oneCell']))) ?_
  refine hK.out _ _ ?_
  clear hK K
  refine done_ (by kernel_rfl) ?_
  go_wp2_with fail
  have F : Kept w7 (w7.setRow w.heap.size #[.int .i64 1, .slice A7 64 c7, .int .u16 0]) (fun k => k = w.heap.size) := ⟨by simp, fun k _ hk => setRow_other _ _ _ _ hk⟩
  have hlt := blk_lt hz5.out
  refine bodyPost_ret (results_cell rfl _ _ w.heap.size 50 #[.int .i64 1, .slice A7 64 c7, .int .u16 0] _ rfl (setRow_heap _ _ _ _ _ _ (blk_below hz5.out hHeld)) Try.underlying50 rfl (by rw [sz_patch]; rfl)) rfl ?_
  have hnz : ∃ ad, A7 = some ad := by
    obtain ⟨_, _, hC7⟩ := Kd.R_reads' HR7.out
    obtain ⟨ad, e, _⟩ := hC7.2.2 (by rw [Hseal.out]; decide)
    exact ⟨ad, e⟩
  obtain ⟨ad, rfl⟩ := hnz
  have hR8 := Kd.R_kept (Kd.R_bound HR7.out) F (fun k hk e => by have h1 : w6.heap.size ≤ k := hk.2.1; omega)
  exact ⟨ad, c7, rfl, hc7'.out, Kd.R_mono (Kd.R_lower hR8 HB5.out.size) (fun _ _ => trivial), below_setRow (below_step HB5.out hHeld) (Nat.le_refl _) _⟩
end Go.Proofs.Ytpbijdalfeaheaa.Tf

/- journal: write. -/
namespace Go.Proofs.Ytpbijdalfeaheaa.Tf
open Go.RowKit Go.Proofs.YtpbijdalfeaheaaW.PrintWords Go.Proofs.YtpbijdalfeaheaaW.PrintLast Go.Proofs.YtpbijdalfeaheaaW.PrintMore
set_option linter.unusedVariables false
set_option linter.unusedSimpArgs false
/-- As Q; by a goto: J of the label. -/
def jumps (J : Nat → Act → World → Prop) (Q : Exit → Act → World → Prop) : Exit → Act → World → Prop
  | .goto l, a, w => J l a w
  | e, a, w => Q e a w
/-- A scope whose one label is only jumped forward to. -/
theorem wp_scope_fwd {P : Program} {c r : Code} {L : Nat} {a : Act} {w : World} {Q : Exit → Act → World → Prop} (hf : findLabel c L = some r) (h : c.wp P (jumps (fun l a w => l = L ∧ r.wp P (Exit.noGoto Q) a w) Q) a w) : (Code.scope c).wp P Q a w := by
  intro b k cs
  obtain ⟨e, a₁, w₁, hq, harr⟩ := h b (.inScope c :: k) cs
  cases e with
  | normal => exact ⟨.normal, a₁, w₁, hq, .head step_scope (Steps.trans harr (.one step_inScope))⟩
  | exit id => exact ⟨.exit id, a₁, w₁, hq, fun k' hk => .head step_scope (harr k' (by simp [exitTo, hk]))⟩
  | goto l =>
    obtain ⟨rfl, hr⟩ := hq
    have hg : gotoIn l (.inScope c :: k) = some (.code r :: .inScope c :: k) := by simp [gotoIn, hf]
    obtain ⟨e₂, a₂, w₂, hq₂, harr₂⟩ := hr b (.inScope c :: k) cs
    cases e₂ with
    | normal => exact ⟨.normal, a₂, w₂, hq₂, .head step_scope (Steps.trans (Steps.trans (harr _ hg) harr₂) (.one step_inScope))⟩
    | exit id => exact ⟨.exit id, a₂, w₂, hq₂, fun k' hk => .head step_scope (Steps.trans (harr _ hg) (harr₂ k' (by simp [exitTo, hk])))⟩
    | goto l => exact hq₂.elim
    | ret => exact ⟨_, a₂, w₂, hq₂, .of_steps (.head step_scope (harr _ hg)) harr₂⟩
    | panic ch => exact ⟨_, a₂, w₂, hq₂, .of_steps (.head step_scope (harr _ hg)) harr₂⟩
    | outgrown => exact ⟨_, a₂, w₂, hq₂, .of_steps (.head step_scope (harr _ hg)) harr₂⟩
  | ret => exact ⟨_, a₁, w₁, hq, .of_steps (.one step_scope) harr⟩
  | panic ch => exact ⟨_, a₁, w₁, hq, .of_steps (.one step_scope) harr⟩
  | outgrown => exact ⟨_, a₁, w₁, hq, .of_steps (.one step_scope) harr⟩
/-- A patch: its sector, its bytes, no tag. -/
def PK : Kd (Nat × List Int) := Kd.iso (Kd.pair (Kd.int .i64) (Kd.pair (Kd.slice 5 (Kd.int .u8)) (Kd.int .u16))) (fun x => ((x.1 : Int), x.2, (0 : Int)))
theorem PK_K {W : World} {x : Nat × List Int} {c : List Value} (h : PK.K W x c) : ∃ A cap, c = [.int .i64 (x.1 : Int), .slice A x.2.length cap, .int .u16 0] ∧ x.2.length ≤ cap ∧ Kd.C (Kd.int .u8) W A x.2.length x.2 := by
  obtain ⟨c0, c1, rfl, h0, c2, c3, rfl, ⟨A, cap, rfl, hl, hC⟩, h3⟩ := h
  have e0 : c0 = [.int .i64 (x.1 : Int)] := h0
  have e3 : c3 = [.int .u16 0] := h3
  subst e0
  subst e3
  exact ⟨A, cap, rfl, hl, hC⟩
theorem PK_mk {W : World} {x : Nat × List Int} {A : Option Addr} {cap : Nat} (hl : x.2.length ≤ cap) (hC : Kd.C (Kd.int .u8) W A x.2.length x.2) : PK.K W x [.int .i64 (x.1 : Int), .slice A x.2.length cap, .int .u16 0] :=
  ⟨[.int .i64 (x.1 : Int)], _, rfl, rfl, [.slice A x.2.length cap], [.int .u16 0], rfl, ⟨A, cap, rfl, hl, hC⟩, rfl⟩
theorem PK_FK {W : World} {ok : Nat → Prop} {x : Nat × List Int} {c : List Value} (h : Kd.FK PK W ok x c) : ∃ A cap, c = [.int .i64 (x.1 : Int), .slice A x.2.length cap, .int .u16 0] ∧ x.2.length ≤ cap ∧ Kd.F (Kd.int .u8) W ok A x.2.length x.2 := by
  obtain ⟨A, cap, rfl, hl, _⟩ := PK_K (Kd.FK_now h)
  refine ⟨A, cap, rfl, hl, fun W' hW => ?_⟩
  obtain ⟨A', cap', e, _, hC⟩ := PK_K (h W' hW)
  simp only [List.cons.injEq, Value.slice.injEq, and_true, true_and] at e
  obtain ⟨rfl, _⟩ := e
  exact hC
/-- What a list of writes leaves, and whether all were done. -/
def writeL : Dk → List (Nat × List Int) → Bool × Dk
  | D, [] => if D.live then (true, { D.tick with waits := [] }) else (false, D.off)
  | D, x :: xs => if D.live then writeL (D.tick.put x.1 x.2) xs else (false, D.off)
def Pok (x : Nat × List Int) : Prop := x.1 < 88 ∧ x.2.length = 64
set_option maxHeartbeats 8000000 in
set_option maxRecDepth 100000 in
theorem jwrite_any (B gj gd gs : Nat) (sq : Int) (D : Dk) (A : Option Addr) (n c : Nat) (xs : List (Nat × List Int)) (ok : Nat → Prop) (w : World) (hJ : JAt w gj gd sq) (hgj : ¬ DS B gd gs gj) (hD : DiskAt w B gd gs D) (hB : B ≤ w.heap.size) (hF : Kd.F PK w ok A n xs) (hok : ∀ k, ok k → ¬ DS B gd gs k) (hx : ∀ x ∈ xs, Pok x) (hwl : D.waits.length + n ≤ 4096) :
    Calls Try.prog 23 #[.pointer (some ⟨gj, 0, none⟩), .slice A n c] w fun e w' => e = .returned (.int .i64 (if (writeL D xs).1 then 0 else 6)) ∧ DiskAt w' B gd gs (writeL D xs).2 ∧ Fr (DS B gd gs) w w' := by
  have hn := Kd.F_len hF
  have HJ := Lib.hid hJ
  have HD := Lib.hid hD
  have HF := Lib.hid hF
  have HX := Lib.hid hx
  have HOK := Lib.hid hok
  have HN := Lib.hid hn
  have HGJ := Lib.hid hgj
  clear hJ hD hF hx hok hn hgj
  go_enter Try.func23, Try.ntmps23
  go_wp2_with fail
  refine wp_scope_fwd (L := 0) (by rfl) ?_
  go_wp2_with fail
  go_loopg [4, 6, 9] n (fun q v4 _ i wr => ∃ (k : Nat) (De : Dk), k + q = n ∧ v4 = .int .i64 0 ∧ i = .int .i64 (k : Int) ∧ Hid (DiskAt wr B gd gs De) ∧ Hid (Fr (DS B gd gs) w wr) ∧ Hid (writeL D xs = writeL De (xs.drop k)) ∧ Hid (De.waits.length + (n - k) ≤ 4096))
  case atStart => exact ⟨0, D, by omega, rfl, rfl, HD, Lib.hid (Fr.refl _ _), Lib.hid rfl, Lib.hid (by omega)⟩
  case round =>
    obtain ⟨k, De, hq, rfl, rfl, hDe, hFr, hWL, hwk⟩ := hrel
    cases gk with
    | zero =>
      obtain rfl : k = n := by omega
      have d1 : decide ((k : Int) < (k : Int)) = false := decide_eq_false (by omega)
      have x0 := (show JAt wr gj gd sq from hFr.out.blk HJ.out HGJ.out).disk
      have e1 : writeL D xs = writeL De [] := by rw [hWL.out, List.drop_of_length_le (by rw [HN.out]; exact Nat.le_refl _)]
      cases hl : De.live with
      | true =>
        have E := Lib.hid (show writeL D xs = (true, { De.tick with waits := [] }) by rw [e1]; simp [writeL, hl])
        have Hl := Lib.hid hl
        clear e1 hl
        go_wp2_with fail
        refine (flush_ok B gd gs De wr hDe.out Hl.out).mono ?_
        rintro e w1 ⟨rfl, h1, F1⟩
        have H1 := Lib.hid h1
        have HF1 := Lib.hid F1
        clear h1 F1 x0
        go_wp2_with fail
        (try simp only [Exit.inBlock, Exit.then, jumps])
        go_ret
        rw [E.out]
        exact ⟨rfl, H1.out, hFr.out.then_ HF1.out (fun k hk => .inl (.inl hk))⟩
      | false =>
        have E := Lib.hid (show writeL D xs = (false, De.off) by rw [e1]; simp [writeL, hl])
        have Hl := Lib.hid hl
        clear e1 hl
        go_wp2_with fail
        refine (flush_no B gd gs De wr hDe.out Hl.out).mono ?_
        rintro e w1 ⟨rfl, h1, F1⟩
        have H1 := Lib.hid h1
        have HF1 := Lib.hid F1
        clear h1 F1 x0
        go_wp2_with fail
        apply wp_goto
        simp only [Exit.inBlock, Exit.then, jumps]
        refine ⟨rfl, ?_⟩
        go_wp2_with fail
        rw [Exit.noGoto_ret]
        go_ret
        rw [E.out]
        exact ⟨rfl, H1.out, hFr.out.then_ HF1.out (fun k hk => .inl (.inl hk))⟩
    | succ q =>
      have d1 : decide ((k : Int) < (n : Int)) = true := decide_eq_true (by omega)
      have q0 : 0 ≤ (k : Int) := by omega
      have q1 : (k : Int) < (n : Int) := by omega
      have hkl : k < xs.length := by rw [HN.out]; omega
      obtain ⟨x, hx⟩ : ∃ x, xs[k] = x := ⟨_, rfl⟩
      have Hx := Lib.hid (HX.out x (by rw [← hx]; exact List.getElem_mem hkl))
      have hFk := Kd.F_kept HF.out hFr.out.kept HOK.out
      obtain ⟨ad, cs, rfl, hcl, hFK, hcell, hin⟩ := Kd.F_get hFk x (k : Int) q0 q1
      rw [Int.toNat_natCast] at hcell hFK
      have hgx : xs.getD k x = x := by rw [List.getD_eq_getElem?_getD, List.getElem?_eq_getElem hkl, hx]; rfl
      rw [hgx] at hFK
      obtain ⟨A2, cap, rfl, hcap, hF2⟩ := PK_FK hFK
      rw [Hx.out.2] at hcap hF2 hcell
      have hC2 := Kd.F_now hF2
      obtain ⟨ad2, rfl, _⟩ := hC2.2.2 (by decide)
      rw [Hx.out.2] at hcl
      have hload := Lib.hid (load_any wr (ad.add (k * 3)) 50 [.int .i64 (x.1 : Int), .slice (some ad2) 64 cap, .int .u16 0] _ (fun j v hj => by rw [add_add]; exact hcell j v hj) Try.underlying50 rfl (by rw [sz_patch]; rfl))
      have hWLk : writeL D xs = writeL De (x :: xs.drop (k + 1)) := by rw [hWL.out, List.drop_eq_getElem_cons hkl, hx]
      have HWk := Lib.hid hWLk
      have HC := Lib.hid hC2
      have Hxa := Lib.hid Hx.out.1
      have Hxb := Lib.hid Hx.out.2
      clear hx hFk hcl hFK hcell hin hgx hcap hF2 hC2 hWLk hkl
      go_wp2_with (first | ((with_reducible refine gate_load 50 (.tmp 11) rfl ?_); refine wpList_load_eq rfl _ _ rfl _ _ rfl hload.out ?_) | ((with_reducible refine gate_store 50 (.tmp 6) (.tmp 12) rfl ?_); refine wpList_store_eq rfl _ _ _ rfl _ _ rfl rfl (store_row (blk_new _ _) (by rw [sz_patch]; rfl) rfl (by simp [Value.oneCell'])) ?_))
      obtain ⟨w2, hw2⟩ : ∃ w2, (wr.alloc (Obj.cells #[.int .i64 0, .slice none 0 0, .int .u16 0] 50)).setRow wr.heap.size #[.int .i64 (x.1 : Int), .slice (some ad2) 64 cap, .int .u16 0] = w2 := ⟨_, rfl⟩
      have hB2 : Below wr.heap.size wr w2 := by rw [← hw2]; exact below_setRow (below_alloc (Below.refl _ _) _) (Nat.le_refl _) _
      have Hz2 := Lib.hid (show w2.heap[wr.heap.size]? = some (.cells #[.int .i64 (x.1 : Int), .slice (some ad2) 64 cap, .int .u16 0] 50 (0, 0)) by rw [← hw2]; exact setRow_heap _ _ _ _ _ _ (blk_new _ _))
      rw [hw2]
      have H2 := Lib.hid (hDe.out.below hB2)
      have HJ2 := Lib.hid (show JAt w2 gj gd sq from (JAt.below (hFr.out.blk HJ.out HGJ.out) hB2))
      have HC2 := Lib.hid (Kd.C_below HC.out hB2)
      have HF2 := Lib.hid (hFr.out.below hB2)
      have HB2 := Lib.hid (Nat.le_trans hB HF2.out.size)
      clear hw2 hB2 hload
      cases hl : De.live with
      | true =>
        have Hl := Lib.hid hl
        have HW2 := Lib.hid (show writeL D xs = writeL (De.tick.put x.1 x.2) (xs.drop (k + 1)) by rw [HWk.out]; simp [writeL, hl])
        clear hl
        refine start_ (n := 7) (S := (fun W => Below w2.heap.size w2 W)) (ds := [5, 6]) #[false, false, false, false, false, false, false] (by kernel_rfl) rfl rfl (below_drew (Below.refl _ _)) (fun hHeld => ?_)
        refine pure_ (i := 0) (N := some 13) (v := ?_) (a' := ?_) #[true, false, false, false, false, false, false] rfl rfl (by kernel_rfl) (fun _ _ _ h => h) (Or.inl ⟨by rfl, ?_⟩) ?_ ?_
        rotate_left
        · intro w'
          go_simp
          with_reducible rfl
        rotate_left
        · simp only [Act.put, List.setIfInBounds_toArray, List.set_cons_zero, List.set_cons_succ, i64_w, i32_w]
          rfl
        refine pure_ (i := 1) (N := some 14) (v := ?_) (a' := ?_) #[true, true, false, false, false, false, false] rfl rfl (by kernel_rfl) (fun _ _ _ h => h) (Or.inl ⟨by rfl, ?_⟩) ?_ ?_
        rotate_left
        · intro w'
          go_simp
          with_reducible rfl
        rotate_left
        · simp only [Act.put, List.setIfInBounds_toArray, List.set_cons_zero, List.set_cons_succ, i64_w, i32_w]
          rfl
        refine pure_ (i := 2) (N := some 15) (v := ?_) (a' := ?_) #[true, true, true, false, false, false, false] rfl rfl (by kernel_rfl) (fun _ _ _ h => h) (Or.inl ⟨by rfl, ?_⟩) ?_ ?_
        rotate_left
        · intro w'
          go_simp
          with_reducible rfl
        rotate_left
        · simp only [Act.put, List.setIfInBounds_toArray, List.set_cons_zero, List.set_cons_succ, i64_w, i32_w]
          rfl
        refine take_ (i := 3) (N := some 16) (v := ?_) (a' := ?_) #[true, true, true, true, false, false, false] rfl rfl (by kernel_rfl) (fun _ _ _ h => h) (Or.inl ⟨by rfl, ?_⟩) hHeld ?_ ?_
        rotate_left
        · rintro w' hS
          have y1 := hS.cell (p := ⟨gj, 0, none⟩) HJ2.out.lt
          rw [HJ2.out.disk] at y1
          go_simp
          with_reducible rfl
        rotate_left
        · simp only [Act.put, List.setIfInBounds_toArray, List.set_cons_zero, List.set_cons_succ, i64_w, i32_w]
          rfl
        refine take_ (i := 4) (N := some 17) (v := .agg #[.int .i64 (x.1 : Int), .slice (some ad2) 64 cap, .int .u16 0]) (a' := ?_) #[true, true, true, true, true, false, false] rfl rfl (by kernel_rfl) (fun _ _ _ h => h) (yieldsIf_load_any (by rfl) 50 (.tmp 6) rfl ⟨wr.heap.size, 0, none⟩ rfl [.int .i64 (x.1 : Int), .slice (some ad2) 64 cap, .int .u16 0] _ (fun w' hS j v hj => by rw [Addr.add_mid, hS.cell (p := ⟨wr.heap.size, 0 + j, none⟩) (blk_lt Hz2.out), Nat.zero_add, blk_cell Hz2.out]; simpa using hj) Try.underlying50 rfl (by rw [sz_patch]; rfl)) hHeld ?_ ?_
        rotate_left
        · simp only [Act.put, List.setIfInBounds_toArray, List.set_cons_zero, List.set_cons_succ, i64_w, i32_w]
          rfl
        refine last_ (i := 5) (N := some 18) #[true, true, true, true, true, true, false] rfl rfl (by kernel_rfl) (by decide) (fun K hK => ?_)
        refine goes_ Try.func45 (by kernel_rfl) rfl #[.pointer (some ⟨gd, 0, none⟩), patchV (x.1 : Int) (some ad2) 64 cap] (by rfl) rfl rfl (by (try simp only [List.map_toArray, List.map_cons, List.map_nil]); first | done | rfl) ?_
        with_reducible refine (write_ok B gd gs De x.1 cap ad2 x.2 w2.drew (H2.out.below (below_drew (Below.refl _ _))) (by rw [heap_drew]; exact HB2.out) Hl.out Hxa.out Hxb.out (Kd.C_below HC2.out (below_drew (Below.refl _ _))) (by have := hwk.out; omega)).mono ?_
        rintro e w3 ⟨rfl, h3, F3⟩
        have H3 := Lib.hid h3
        have HF3 := Lib.hid F3
        clear h3 F3
        refine ⟨_, rfl, ?_⟩
        refine hK.out _ _ ?_
        clear hK K
        refine norm_ (a' := ?_) ?_ ?_
        rotate_left
        · show Act.put _ (some 18) _ = _
          simp only [Act.put, List.setIfInBounds_toArray, List.set_cons_zero, List.set_cons_succ, i64_w, i32_w]
          rfl
        refine pure_ (i := 6) (N := some 4) (v := ?_) (a' := ?_) #[true, true, true, true, true, true, true] rfl rfl (by kernel_rfl) (fun _ _ _ h => h) (Or.inl ⟨by rfl, ?_⟩) ?_ ?_
        rotate_left
        · intro w'
          go_simp
          with_reducible rfl
        rotate_left
        · simp only [Act.put, List.setIfInBounds_toArray, List.set_cons_zero, List.set_cons_succ, i64_w, i32_w]
          rfl
        refine done_ (by kernel_rfl) ?_
        go_wp2_with fail
        go_roundg q
        case measure => omega
        case rel =>
          refine ⟨k + 1, De.tick.put x.1 x.2, by omega, rfl, by go_num, H3, Lib.hid (HF2.out.drew.trans HF3.out), HW2, Lib.hid ?_⟩
          have h1 : (De.tick.put x.1 x.2).waits.length = De.waits.length + 1 := by simp [Dk.put, Dk.tick]
          have := hwk.out
          omega
      | false =>
        have Hl := Lib.hid hl
        have HW2 := Lib.hid (show writeL D xs = (false, De.off) by rw [HWk.out]; simp [writeL, hl])
        clear hl
        refine start_ (n := 7) (S := (fun W => Below w2.heap.size w2 W)) (ds := [5, 6]) #[false, false, false, false, false, false, false] (by kernel_rfl) rfl rfl (below_drew (Below.refl _ _)) (fun hHeld => ?_)
        refine pure_ (i := 0) (N := some 13) (v := ?_) (a' := ?_) #[true, false, false, false, false, false, false] rfl rfl (by kernel_rfl) (fun _ _ _ h => h) (Or.inl ⟨by rfl, ?_⟩) ?_ ?_
        rotate_left
        · intro w'
          go_simp
          with_reducible rfl
        rotate_left
        · simp only [Act.put, List.setIfInBounds_toArray, List.set_cons_zero, List.set_cons_succ, i64_w, i32_w]
          rfl
        refine pure_ (i := 1) (N := some 14) (v := ?_) (a' := ?_) #[true, true, false, false, false, false, false] rfl rfl (by kernel_rfl) (fun _ _ _ h => h) (Or.inl ⟨by rfl, ?_⟩) ?_ ?_
        rotate_left
        · intro w'
          go_simp
          with_reducible rfl
        rotate_left
        · simp only [Act.put, List.setIfInBounds_toArray, List.set_cons_zero, List.set_cons_succ, i64_w, i32_w]
          rfl
        refine pure_ (i := 2) (N := some 15) (v := ?_) (a' := ?_) #[true, true, true, false, false, false, false] rfl rfl (by kernel_rfl) (fun _ _ _ h => h) (Or.inl ⟨by rfl, ?_⟩) ?_ ?_
        rotate_left
        · intro w'
          go_simp
          with_reducible rfl
        rotate_left
        · simp only [Act.put, List.setIfInBounds_toArray, List.set_cons_zero, List.set_cons_succ, i64_w, i32_w]
          rfl
        refine take_ (i := 3) (N := some 16) (v := ?_) (a' := ?_) #[true, true, true, true, false, false, false] rfl rfl (by kernel_rfl) (fun _ _ _ h => h) (Or.inl ⟨by rfl, ?_⟩) hHeld ?_ ?_
        rotate_left
        · rintro w' hS
          have y1 := hS.cell (p := ⟨gj, 0, none⟩) HJ2.out.lt
          rw [HJ2.out.disk] at y1
          go_simp
          with_reducible rfl
        rotate_left
        · simp only [Act.put, List.setIfInBounds_toArray, List.set_cons_zero, List.set_cons_succ, i64_w, i32_w]
          rfl
        refine take_ (i := 4) (N := some 17) (v := .agg #[.int .i64 (x.1 : Int), .slice (some ad2) 64 cap, .int .u16 0]) (a' := ?_) #[true, true, true, true, true, false, false] rfl rfl (by kernel_rfl) (fun _ _ _ h => h) (yieldsIf_load_any (by rfl) 50 (.tmp 6) rfl ⟨wr.heap.size, 0, none⟩ rfl [.int .i64 (x.1 : Int), .slice (some ad2) 64 cap, .int .u16 0] _ (fun w' hS j v hj => by rw [Addr.add_mid, hS.cell (p := ⟨wr.heap.size, 0 + j, none⟩) (blk_lt Hz2.out), Nat.zero_add, blk_cell Hz2.out]; simpa using hj) Try.underlying50 rfl (by rw [sz_patch]; rfl)) hHeld ?_ ?_
        rotate_left
        · simp only [Act.put, List.setIfInBounds_toArray, List.set_cons_zero, List.set_cons_succ, i64_w, i32_w]
          rfl
        refine last_ (i := 5) (N := some 18) #[true, true, true, true, true, true, false] rfl rfl (by kernel_rfl) (by decide) (fun K hK => ?_)
        refine goes_ Try.func45 (by kernel_rfl) rfl #[.pointer (some ⟨gd, 0, none⟩), patchV (x.1 : Int) (some ad2) 64 cap] (by rfl) rfl rfl (by (try simp only [List.map_toArray, List.map_cons, List.map_nil]); first | done | rfl) ?_
        with_reducible refine (write_no B gd gs De x.1 cap ad2 w2.drew (H2.out.below (below_drew (Below.refl _ _))) (by rw [heap_drew]; exact HB2.out) Hl.out Hxa.out).mono ?_
        rintro e w3 ⟨rfl, h3, F3⟩
        have H3 := Lib.hid h3
        have HF3 := Lib.hid F3
        clear h3 F3
        refine ⟨_, rfl, ?_⟩
        refine hK.out _ _ ?_
        clear hK K
        refine norm_ (a' := ?_) ?_ ?_
        rotate_left
        · show Act.put _ (some 18) _ = _
          simp only [Act.put, List.setIfInBounds_toArray, List.set_cons_zero, List.set_cons_succ, i64_w, i32_w]
          rfl
        refine pure_ (i := 6) (N := some 4) (v := ?_) (a' := ?_) #[true, true, true, true, true, true, true] rfl rfl (by kernel_rfl) (fun _ _ _ h => h) (Or.inl ⟨by rfl, ?_⟩) ?_ ?_
        rotate_left
        · intro w'
          go_simp
          with_reducible rfl
        rotate_left
        · simp only [Act.put, List.setIfInBounds_toArray, List.set_cons_zero, List.set_cons_succ, i64_w, i32_w]
          rfl
        refine done_ (by kernel_rfl) ?_
        go_wp2_with fail
        apply wp_goto
        simp only [Exit.inBlock, Exit.then, jumps]
        refine ⟨rfl, ?_⟩
        go_wp2_with fail
        rw [Exit.noGoto_ret]
        go_ret
        rw [HW2.out]
        exact ⟨rfl, H3.out, HF2.out.drew.trans HF3.out⟩
end Go.Proofs.Ytpbijdalfeaheaa.Tf

/- Rows of patches, raw: which sector, where the bytes lie. -/
namespace Go.Proofs.Ytpbijdalfeaheaa.Tf
open Go.RowKit Go.Proofs.YtpbijdalfeaheaaW.PrintWords Go.Proofs.YtpbijdalfeaheaaW.PrintLast Go.Proofs.YtpbijdalfeaheaaW.PrintMore
set_option linter.unusedVariables false
set_option linter.unusedSimpArgs false
abbrev Raw := Nat × Option Addr × Nat
def rawC (r : Raw) : List Value := [.int .i64 (r.1 : Int), .slice r.2.1 64 r.2.2, .int .u16 0]
def RP : Kd Raw := flat 3 rawC (fun x u hu => by
  simp only [rawC, List.mem_cons, List.not_mem_nil, or_false] at hu
  rcases hu with h | h | h <;> rw [h] <;> rfl)
theorem RP_plain : Plain RP rawC := plain_flat 3 rawC _
theorem info_patch : (Try.prog.info? 50).map (fun i => (i.zero, i.size, i.bytes)) = some (some (.agg #[.int .i64 0, .slice none 0 0, .int .u16 0]), 3, 40) := by kernel_rfl
/-- What the raw row says of the patches. -/
def Says (W : World) (ok : Nat → Prop) (rows : List Raw) (xs : List (Nat × List Int)) : Prop :=
  rows.length = xs.length ∧ ∀ (j : Nat) (r : Raw) (x : Nat × List Int), rows[j]? = some r → xs[j]? = some x → r.1 = x.1 ∧ x.2.length = 64 ∧ 64 ≤ r.2.2 ∧ Kd.F (Kd.int .u8) W ok r.2.1 64 x.2
theorem Says.mono {W : World} {ok ok' : Nat → Prop} {rows : List Raw} {xs : List (Nat × List Int)} (h : Says W ok rows xs) (hok : ∀ k, ok k → ok' k) : Says W ok' rows xs :=
  ⟨h.1, fun j r x hr hx => by obtain ⟨a, b, c, d⟩ := h.2 j r x hr hx; exact ⟨a, b, c, Kd.F_mono d hok⟩⟩
theorem Says.bound {W : World} {ok : Nat → Prop} {rows : List Raw} {xs : List (Nat × List Int)} (h : Says W ok rows xs) : Says W (fun k => ok k ∧ k < W.heap.size) rows xs :=
  ⟨h.1, fun j r x hr hx => by obtain ⟨a, b, c, d⟩ := h.2 j r x hr hx; exact ⟨a, b, c, Kd.F_bound d⟩⟩
theorem Says.step {W W1 : World} {ok : Nat → Prop} {rows : List Raw} {xs : List (Nat × List Int)} (h : Says W ok rows xs) (hm : ∀ k, ok k → k < W.heap.size → W1.heap[k]? = W.heap[k]?) : Says W1 ok rows xs :=
  ⟨h.1, fun j r x hr hx => by obtain ⟨a, b, c, d⟩ := h.2 j r x hr hx; exact ⟨a, b, c, Kd.F_step d hm⟩⟩
theorem Says.below {W W1 : World} {ok : Nat → Prop} {rows : List Raw} {xs : List (Nat × List Int)} (h : Says W ok rows xs) (hb : Below W.heap.size W W1) : Says W1 ok rows xs := h.step (fun k _ hlt => hb.block k hlt)
theorem Says.nil (W : World) (ok : Nat → Prop) : Says W ok [] [] := ⟨rfl, fun j r x h => by simp at h⟩
theorem Says.append {W : World} {ok : Nat → Prop} {rows rows' : List Raw} {xs xs' : List (Nat × List Int)} (h : Says W ok rows xs) (h' : Says W ok rows' xs') : Says W ok (rows ++ rows') (xs ++ xs') := by
  refine ⟨by rw [List.length_append, List.length_append, h.1, h'.1], fun j r x hr hx => ?_⟩
  rcases Nat.lt_or_ge j rows.length with hj | hj
  · rw [List.getElem?_append_left hj] at hr
    rw [List.getElem?_append_left (by rw [← h.1]; exact hj)] at hx
    exact h.2 j r x hr hx
  · rw [List.getElem?_append_right hj] at hr
    rw [List.getElem?_append_right (by rw [← h.1]; exact hj), ← h.1] at hx
    exact h'.2 _ r x hr hx
theorem Says.one {W : World} {ok : Nat → Prop} {r : Raw} {x : Nat × List Int} (h1 : r.1 = x.1) (h2 : x.2.length = 64) (h3 : 64 ≤ r.2.2) (h4 : Kd.F (Kd.int .u8) W ok r.2.1 64 x.2) : Says W ok [r] [x] := by
  refine ⟨rfl, fun j r' x' hr hx => ?_⟩
  cases j with
  | zero =>
    have e1 : r = r' := by simpa using hr
    have e2 : x = x' := by simpa using hx
    subst e1; subst e2
    exact ⟨h1, h2, h3, h4⟩
  | succ j => simp at hr
/-- The sector of one of them is set. -/
theorem Says.set {W : World} {ok : Nat → Prop} {rows : List Raw} {xs : List (Nat × List Int)} (h : Says W ok rows xs) (i s : Nat) (hi : i < xs.length) (hi' : i < rows.length) : Says W ok (rows.set i (s, rows[i].2)) (xs.set i (s, xs[i].2)) := by
  refine ⟨by simp [h.1], fun j r x hr hx => ?_⟩
  by_cases hj : i = j
  · subst hj
    rw [List.getElem?_set_self hi'] at hr
    rw [List.getElem?_set_self hi] at hx
    injection hr with hr
    injection hx with hx
    subst hr; subst hx
    obtain ⟨_, b, c, d⟩ := h.2 i _ _ (List.getElem?_eq_getElem hi') (List.getElem?_eq_getElem hi)
    exact ⟨rfl, b, c, d⟩
  · rw [List.getElem?_set_ne hj] at hr hx
    exact h.2 j r x hr hx
/-- A row of patches that is read, raw. -/
theorem raw_of_F {W : World} {ok : Nat → Prop} {A : Option Addr} {n : Nat} {xs : List (Nat × List Int)} (h : Kd.F PK W ok A n xs) (hx : ∀ x ∈ xs, x.2.length = 64) : ∃ rows, RP.C W A n rows ∧ Says W ok rows xs := by
  have hr := Kd.F_rows h
  obtain ⟨hl, hm, hc⟩ := hr
  by_cases hn : 0 < n
  · obtain ⟨ad, rfl, hcell⟩ := hc hn
    have key : ∀ m, m ≤ xs.length → ∃ rows : List Raw, rows.length = m ∧ Says W ok rows (xs.take m) ∧ ∀ j r, rows[j]? = some r → ∀ i u, (rawC r)[i]? = some u → W.cell? (ad.add (j * 3 + i)) = some u := by
      intro m
      induction m with
      | zero => intro _; exact ⟨[], rfl, Says.nil _ _, fun j r hj => by simp at hj⟩
      | succ m ih =>
        intro hml
        obtain ⟨rows, h1, h2, h3⟩ := ih (by omega)
        obtain ⟨c, hcl, hFK, hcc⟩ := hcell m _ (List.getElem?_eq_getElem (by omega))
        obtain ⟨A2, cap, rfl, hcap, hF2⟩ := PK_FK hFK
        have hxl := hx _ (List.getElem_mem (show m < xs.length by omega))
        rw [hxl] at hcap hF2 hcc
        refine ⟨rows ++ [(xs[m].1, A2, cap)], by simp [h1], ?_, fun j r hj i u hu => ?_⟩
        · rw [List.take_succ_eq_append_getElem (by omega)]
          exact h2.append (Says.one rfl hxl hcap hF2)
        · rcases Nat.lt_or_ge j rows.length with hjl | hjl
          · rw [List.getElem?_append_left hjl] at hj
            exact h3 j r hj i u hu
          · rw [List.getElem?_append_right hjl] at hj
            have hj0 : j - rows.length = 0 := by have := (List.getElem?_eq_some_iff.1 hj).1; simp at this; omega
            rw [hj0] at hj
            have e : (xs[m].1, A2, cap) = r := by simpa using hj
            subst e
            have ejm : j = m := by omega
            subst ejm
            exact hcc i u hu
    obtain ⟨rows, h1, h2, h3⟩ := key xs.length (Nat.le_refl _)
    rw [List.take_length] at h2
    refine ⟨rows, ⟨by rw [h1, hl], hm, fun _ => ⟨ad, rfl, fun j r hj => ⟨rawC r, rfl, ⟨rfl, rfl⟩, fun i u hu => h3 j r hj i u hu⟩⟩⟩, h2⟩
  · have hn0 : n = 0 := by omega
    subst hn0
    have : xs = [] := List.eq_nil_of_length_eq_zero hl
    subst this
    exact ⟨[], ⟨rfl, by omega, fun h => absurd h (by omega)⟩, Says.nil _ _⟩
/-- .. and back. -/
theorem F_of_raw {W : World} {base e n cap : Nat} {ok oke : Nat → Prop} {A : Option Addr} {rows : List Raw} {xs : List (Nat × List Int)} (h : RP.R e W base oke (.slice A n cap) rows) (hs : Says W ok rows xs) : Kd.F PK W (fun k => ok k ∨ oke k) A n xs := by
  intro W' hW
  have hR := Kd.R_F h W' (fun k hk hlt => hW k (.inr hk) hlt)
  have hS := hs.step (W1 := W') (fun k hk hlt => hW k (.inl hk) hlt)
  refine ⟨by rw [← hs.1]; exact hR.1, hR.2.1, fun hn => ?_⟩
  obtain ⟨ad, rfl, hc⟩ := hR.2.2 hn
  refine ⟨ad, rfl, fun j x hj => ?_⟩
  have hjl : j < rows.length := by rw [hs.1]; exact (List.getElem?_eq_some_iff.1 hj).1
  obtain ⟨c, hcl, hK, hcc⟩ := hc j _ (List.getElem?_eq_getElem hjl)
  have e : c = rawC rows[j] := hK.1
  subst e
  obtain ⟨a1, a2, a3, a4⟩ := hS.2 j _ _ (List.getElem?_eq_getElem hjl) hj
  refine ⟨_, rfl, ?_, hcc⟩
  unfold rawC
  rw [a1]
  have := PK_mk (W := W') (x := x) (A := rows[j].2.1) (cap := rows[j].2.2) (by rw [a2]; exact a3) (by rw [a2]; exact Kd.F_now a4)
  rw [a2] at this
  exact this
/-- An element's first cell is written. -/
theorem R_put3 {W : World} {base n cap g e : Nat} {ok : Nat → Prop} {rows : List Raw} (h : RP.R e W base ok (.slice (some ⟨g, 0, none⟩) n cap) rows) (i s : Nat) (hi : i < rows.length) :
    W.cell? ⟨g, i * 3, none⟩ = some (.int .i64 (rows[i].1 : Int)) ∧ W.frozen? ⟨g, i * 3, none⟩ = false ∧ RP.R e (W.setCell ⟨g, i * 3, none⟩ (.int .i64 (s : Int))) base ok (.slice (some ⟨g, 0, none⟩) n cap) (rows.set i (s, rows[i].2)) := by
  obtain ⟨h0, inner, ho, hr⟩ := h
  obtain ⟨hlen, hrow⟩ := ho
  have hs3 : RP.sz = 3 := rfl
  rcases hrow with ⟨he, _⟩ | ⟨g', cap', cur, he, hg, hb, hnc, hcm, hcs, htk⟩
  · cases he
  · simp only [Value.slice.injEq, Option.some.injEq, Addr.mk.injEq, and_true, true_and] at he
    obtain ⟨rfl, hn, rfl⟩ := he
    have hinner : inner = rows.flatMap rawC := by
      apply List.ext_getElem?
      intro k
      have hfl := flat_len (n := 3) rows (fun x _ => (rfl : (rawC x).length = 3))
      by_cases hk : k < rows.length * 3
      · have hkr : k / 3 < rows.length := by omega
        have h2 := hr.2 (k / 3) _ (List.getElem?_eq_getElem hkr)
        have e1 : (inner.drop (k / 3 * 3)).take 3 = rawC rows[k / 3] := h2.1
        have e2 := flat_get (n := 3) rows (fun x _ => (rfl : (rawC x).length = 3)) (k / 3) hkr
        have hm : k % 3 < 3 := Nat.mod_lt _ (by decide)
        have e3 : ∀ l : List Value, ((l.drop (k / 3 * 3)).take 3)[k % 3]? = l[k]? := fun l => by
          rw [List.getElem?_take_of_lt hm, List.getElem?_drop, Nat.mul_comm, Nat.div_add_mod]
        rw [← e3 inner, ← e3 (rows.flatMap rawC), e1, e2]
      · rw [List.getElem?_eq_none (by rw [hlen, hs3]; omega), List.getElem?_eq_none (by rw [hfl]; omega)]
    have hcl : i * 3 < rows.length * 3 := by omega
    have hcur : i * 3 < cur.size := by
      rw [hcs, hs3]
      exact Nat.lt_of_lt_of_le hcl (Nat.mul_le_mul_right _ hnc)
    have hfl := flat_len (n := 3) rows (fun x _ => (rfl : (rawC x).length = 3))
    have hcell : cur[i * 3]? = some (.int .i64 (rows[i].1 : Int)) := by
      have e1 : (cur.toList.take (rows.length * RP.sz))[i * 3]? = inner[i * 3]? := by rw [htk]
      rw [List.getElem?_take_of_lt (by rw [hs3]; exact hcl)] at e1
      have e2 := flat_get (n := 3) rows (fun x _ => (rfl : (rawC x).length = 3)) i hi
      have e3 : (rows.flatMap rawC)[i * 3]? = some (.int .i64 (rows[i].1 : Int)) := by
        have : (((rows.flatMap rawC).drop (i * 3)).take 3)[0]? = (rows.flatMap rawC)[i * 3]? := by
          rw [List.getElem?_take_of_lt (by decide), List.getElem?_drop, Nat.add_zero]
        rw [← this, e2]; rfl
      rw [hinner, e3] at e1
      simpa using e1
    refine ⟨by rw [blk_cell hb]; exact hcell, blk_frozen hb _, h0, (rows.set i (s, rows[i].2)).flatMap rawC, ⟨?_, .inr ⟨g, cap, cur.setIfInBounds (i * 3) (.int .i64 (s : Int)), by simp [hn], hg, blk_set hb _ _, by simpa using hnc, hcm, by simpa using hcs, ?_⟩⟩, ?_⟩
    · rw [flat_len (n := 3) _ (fun x _ => (rfl : (rawC x).length = 3)), hs3]
    · rw [Array.toList_setIfInBounds, List.length_set, List.take_set, htk, hinner, ← flat_set (n := 3) rows (fun x _ => (rfl : (rawC x).length = 3)) i (s, rows[i].2) hi]
      have e2 := flat_get (n := 3) rows (fun x _ => (rfl : (rawC x).length = 3)) i hi
      have e4 : rows.flatMap rawC = (rows.flatMap rawC).take (i * 3) ++ (rawC rows[i] ++ (rows.flatMap rawC).drop (i * 3 + 3)) := by
        rw [← e2, ← List.drop_drop, List.take_append_drop, List.take_append_drop]
      have e5 : ((rows.flatMap rawC).take (i * 3)).length = i * 3 := by rw [List.length_take, hfl]; omega
      conv => lhs; rw [e4]
      rw [List.set_append_right _ _ (by omega), e5, Nat.sub_self]
      simp [rawC]
    · refine ⟨by rw [flat_len (n := 3) _ (fun x _ => (rfl : (rawC x).length = 3)), hs3], fun j p hj => ⟨?_, rfl⟩⟩
      obtain ⟨hjl, hjp⟩ := List.getElem?_eq_some_iff.1 hj
      rw [hs3, flat_get (n := 3) _ (fun x _ => (rfl : (rawC x).length = 3)) j hjl, hjp]
end Go.Proofs.Ytpbijdalfeaheaa.Tf
