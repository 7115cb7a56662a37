/- Walks and plain laws on which the claim stands, several texts joined. -/
import Derived.Test.YtpbijdalfeaheaaM8

/- inode.Take, of inodes with a kind and a size. -/
namespace Go.Proofs.Ytpbijdalfeaheaa.Tf
open Go.RowKit Go.Proofs.YtpbijdalfeaheaaW.PrintWords Go.Proofs.YtpbijdalfeaheaaW.PrintLast Go.Proofs.YtpbijdalfeaheaaW.PrintMore
set_option linter.unusedVariables false
set_option linter.unusedSimpArgs false
theorem sz_ino : (Try.prog.info? 83).map (·.size) = some 14 := by kernel_rfl
def inoZ : Array Value := #[Value.int IntKind.u8 0, Value.int IntKind.u8 0, Value.int IntKind.i64 0, Value.int IntKind.i64 0, Value.int IntKind.i64 0, Value.int IntKind.i64 0, Value.int IntKind.i64 0, Value.int IntKind.i64 0, Value.int IntKind.i64 0, Value.int IntKind.i64 0, Value.int IntKind.i64 0, Value.int IntKind.i64 0, Value.int IntKind.i64 0, Value.int IntKind.i64 0]
/-- An inode's numbers, as they are taken. -/
def inoT (x : Int × Int) : List Int := inoN x ++ List.replicate 3 0
theorem inoT_len (x : Int × Int) : (inoT x).length = 16 := by simp [inoT, inoN_len]
theorem inoT_lay (x : Int × Int) : layL 2 (inoT x) = inoB x := by
  unfold inoT inoB
  rw [layL_append]
  rfl
theorem inoT_range {x : Int × Int} (h : InoOk x) : ∀ n ∈ inoT x, 0 ≤ n ∧ n < 256 ^ 2 := by
  intro n hn
  rcases List.mem_append.1 hn with hn | hn
  · exact inoN_range h n hn
  · rw [List.eq_of_mem_replicate hn]; omega
theorem inoT_zero {x : Int × Int} {j : Nat} (h3 : 3 ≤ j) {h : j < (inoT x).length} : (inoT x)[j] = 0 := by
  have e : inoT x = [x.1, 0, x.2] ++ List.replicate 13 0 := rfl
  have h2 : (inoT x)[j]? = some 0 := by
    rw [inoT_len] at h
    rw [e, List.getElem?_append_right (by simpa using h3), List.getElem?_replicate, if_pos (by simp; omega)]
  rw [List.getElem?_eq_getElem h] at h2
  injection h2
theorem C_cells {w : World} {ad : Addr} {k : IntKind} {xs : List Int} (h : ∀ i (hi : i < xs.length), w.cell? (ad.add i) = some (.int k xs[i])) (hm : xs.length ≤ 100000) : Kd.C (Kd.int k) w (some ad) xs.length xs := by
  refine ⟨rfl, by omega, fun hn => ⟨ad, rfl, fun i x hi => ?_⟩⟩
  have hl : i < xs.length := by
    rcases Nat.lt_or_ge i xs.length with h1 | h1
    · exact h1
    · rw [List.getElem?_eq_none h1] at hi; cases hi
  rw [List.getElem?_eq_getElem hl] at hi
  injection hi with hi
  subst hi
  refine ⟨[.int k xs[i]], rfl, rfl, fun j v hj => ?_⟩
  cases j with
  | zero =>
    simp only [List.getElem?_cons_zero, Option.some.injEq] at hj
    subst hj
    have := h i hl
    simpa [Kd.int, Kd.scalar] using this
  | succ j => simp at hj
/-- What stays while an inode is laid into memory. -/
structure InoS (W0 : World) (g : Nat) (cells : Array Value) (W : World) : Prop where
  below : Below W0.heap.size W0 W
  at_ : W.heap[g]? = some (.cells cells 83 (0, 0))
theorem InoS.drew {W0 W : World} {g : Nat} {cells : Array Value} (h : InoS W0 g cells W) : InoS W0 g cells W.drew := ⟨h.below.drew, blk_drew h.at_⟩
theorem InoS.put {W0 W : World} {g : Nat} {cells : Array Value} (h : InoS W0 g cells W) (hg : W0.heap.size ≤ g) (i : Nat) (u : Value) (he : cells.setIfInBounds i u = cells) : InoS W0 g cells (W.setCell ⟨g, i, none⟩ u) :=
  ⟨h.below.setCell (p := ⟨g, i, none⟩) hg u, blk_put h.at_ i u he⟩
theorem cut64 (g o n c j : Nat) (hj : j < n) (hc : n ≤ c) (W : World) : (Instr.slice 105 (.slice (some ⟨g, o, none⟩) n c) (some (.int .i64 (j : Int))) none none).run Try.prog W = .ok (.slice (some ⟨g, o + j, none⟩) (n - j) (c - j)) W := by
  obtain ⟨i0, hi0, hz⟩ := Option.map_eq_some_iff.1 info_u64
  simp only [Prod.mk.injEq] at hz
  have h := cut_from (P := Try.prog) 105 23 .i64 Try.underlying105 hi0 1 hz.2.1 (some ⟨g, o, none⟩) n c (j : Int) (by omega) (by omega) W
  rw [Int.toNat_natCast, if_neg (by omega), Option.map_some, Nat.mul_one, Addr.add_mid] at h
  exact h
theorem run_exec_allocI {o : Oper} {a : Act} (ho : o.op = .alloc 83) (W : World) :
    (execOp a.eval o).run Try.prog W = .ok (.value (.pointer (some ⟨W.heap.size, 0, none⟩))) (W.alloc (.cells inoZ 83)) := by
  obtain ⟨i0, hi, hz⟩ := Option.map_eq_some_iff.1 info_inode
  simp only [Prod.mk.injEq] at hz
  have h : (Instr.alloc 83 true (.tuple #[])).run Try.prog W = .ok (.pointer (some ⟨W.heap.size, 0, none⟩)) (W.alloc (.cells inoZ 83)) := by
    simp [Instr.alloc, zeroValue, typeInfo, hi, hz.1, newVar, newRow, Value.cells, inoZ]
  unfold execOp
  simp only [ho, Sem.run_bind, Sem.run_pure, Result.andThen_ok, h]
set_option maxHeartbeats 8000000 in
set_option maxRecDepth 100000 in
theorem inotake1 (s : Int) (h0 : 0 ≤ s) (h1 : s < 3840) (ad : Addr) (c0 : Nat) (w : World) (h : Kd.C (Kd.int .u8) w (some ad) 32 (inoB (1, s))) (hc : 32 ≤ c0) : Calls Try.prog 54 #[.slice (some ad) 32 c0] w fun e w' => e = .returned (.tuple #[.agg (inoC (1, s)).toArray, .int .i64 0]) ∧ Below w.heap.size w w' := by
  have hs1 : wrap64 s = s := by unfold wrap64; omega
  have hs2 : IntKind.i64.wrap s = s := by rw [i64_w]; exact hs1
  have HC := Lib.hid h
  have Hc := Lib.hid hc
  clear h hc
  go_enter Try.func54, Try.ntmps54
  go_wp2_with fail
  obtain ⟨wa, hwa⟩ : ∃ wa, w.alloc (Obj.cells inoZ 83) = wa := ⟨_, rfl⟩
  have hb : wa.heap[w.heap.size]? = some (.cells inoZ 83 (0, 0)) := by rw [← hwa]; exact blk_new _ _
  have hB : Below w.heap.size w wa := by rw [← hwa]; exact below_alloc (Below.refl _ _) _
  unfold inoZ at hwa
  rw [hwa]
  refine (take_any 2 32 (some ad) c0 (inoT (1, s)) wa (by omega) (by omega) (by rw [inoT_len]) (by omega) (by rw [inoT_lay]; exact Kd.C_below HC.out hB) Hc.out (inoT_range (.inr ⟨rfl, h0, h1⟩))).mono ?_
  rintro e w2 ⟨v2, rfl, hR2, hB2⟩
  have hb2 := blk_below hb hB2
  have HB2 := Lib.hid (below_step hB hB2)
  obtain ⟨g8, c8, rfl⟩ := R_some hR2 (by rw [inoT_len]; decide)
  have hC2 := Kd.F_now (Kd.R_F hR2)
  obtain ⟨A', c', e', hc8, hdel⟩ := Kd.R_reads hR2
  rw [inoT_len] at hC2 e' hc8 ⊢
  injection e' with e1 e2 e3
  subst e3
  have Hc8 := Lib.hid hc8
  have HC2 := Lib.hid hC2
  have Hb2 := Lib.hid hb2
  clear hb hB hwa hB2 hR2 hC2 hc8 hb2 e1 e2 hdel A'
  have hn : ∀ (j : Nat) (hj : j < (inoT (1, s)).length), Hid (∀ w', Below w2.heap.size w2 w' → w'.cell? ⟨g8, j, none⟩ = some (.int .u64 (inoT (1, s))[j])) := by
    intro j hj
    refine Lib.hid (fun w' hS => ?_)
    obtain ⟨ad', e, hc0⟩ := at_int HC2.out j hj
    injection e with e
    subst e
    rw [Addr.add_mid, Nat.zero_add] at hc0
    rw [hS.cell (World.block_lt_of_cell? w2 _ hc0)]
    exact hc0
  have Hn0 : Hid (∀ w', Below w2.heap.size w2 w' → w'.cell? ⟨g8, 0, none⟩ = some (.int .u64 1)) := hn 0 (by rw [inoT_len]; decide)
  have Hn1 : Hid (∀ w', Below w2.heap.size w2 w' → w'.cell? ⟨g8, 1, none⟩ = some (.int .u64 0)) := hn 1 (by rw [inoT_len]; decide)
  have Hn2 : Hid (∀ w', Below w2.heap.size w2 w' → w'.cell? ⟨g8, 2, none⟩ = some (.int .u64 s)) := hn 2 (by rw [inoT_len]; decide)
  have Hnn := Lib.hid hn
  clear hn
  go_wp2_with fail
  have hz64 : wrap64 0 = 0 := by unfold wrap64; omega
  refine start_ (n := 20) (S := (fun W => Below w2.heap.size w2 W)) (ds := [19]) #[false, false, false, false, false, false, false, false, false, false, false, false, false, false, false, false, false, false, false, false] (by kernel_rfl) rfl rfl (below_drew (Below.refl _ _)) (fun hHeld => ?_)
  refine pure_ (i := 0) (N := some 22) (v := ?_) (a' := ?_) #[true, false, false, false, false, false, false, false, false, false, false, false, false, false, false, false, false, false, false, false] rfl rfl (by kernel_rfl) (fun _ _ _ h => h) (Or.inl ⟨by rfl, ?_⟩) ?_ ?_
  rotate_left
  · intro w'
    go_simp
    with_reducible rfl
  rotate_left
  · simp only [Act.put, List.setIfInBounds_toArray, List.set_cons_zero, List.set_cons_succ, i64_w, i32_w]
    rfl
  refine pure_ (i := 1) (N := some 23) (v := ?_) (a' := ?_) #[true, true, false, false, false, false, false, false, false, false, false, false, false, false, false, false, false, false, false, false] rfl rfl (by kernel_rfl) (fun _ _ _ h => h) (Or.inl ⟨by rfl, ?_⟩) ?_ ?_
  rotate_left
  · intro w'
    go_simp
    with_reducible rfl
  rotate_left
  · simp only [Act.put, List.setIfInBounds_toArray, List.set_cons_zero, List.set_cons_succ, i64_w, i32_w]
    rfl
  refine take_ (i := 2) (N := some 24) (v := ?_) (a' := ?_) #[true, true, true, false, false, false, false, false, false, false, false, false, false, false, false, false, false, false, false, false] rfl rfl (by kernel_rfl) (fun _ _ _ h => h) (Or.inl ⟨by rfl, ?_⟩) hHeld ?_ ?_
  rotate_left
  · rintro w' hS
    have y1 := Hn0.out w' hS
    go_simp
    with_reducible rfl
  rotate_left
  · simp only [Act.put, List.setIfInBounds_toArray, List.set_cons_zero, List.set_cons_succ, i64_w, i32_w]
    rfl
  refine pure_ (i := 3) (N := some 25) (v := ?_) (a' := ?_) #[true, true, true, true, false, false, false, false, false, false, false, false, false, false, false, false, false, false, false, false] rfl rfl (by kernel_rfl) (fun _ _ _ h => h) (Or.inl ⟨by rfl, ?_⟩) ?_ ?_
  rotate_left
  · intro w'
    go_simp
    with_reducible rfl
  rotate_left
  · simp only [Act.put, List.setIfInBounds_toArray, List.set_cons_zero, List.set_cons_succ, i64_w, i32_w]
    rfl
  try rw [show IntKind.u8.wrap 1 = 1 from rfl]
  refine pure_ (i := 4) (N := some 26) (v := ?_) (a' := ?_) #[true, true, true, true, true, false, false, false, false, false, false, false, false, false, false, false, false, false, false, false] rfl rfl (by kernel_rfl) (fun _ _ _ h => h) (Or.inl ⟨by rfl, ?_⟩) ?_ ?_
  rotate_left
  · intro w'
    go_simp
    with_reducible rfl
  rotate_left
  · simp only [Act.put, List.setIfInBounds_toArray, List.set_cons_zero, List.set_cons_succ, i64_w, i32_w]
    rfl
  refine pure_ (i := 5) (N := some 27) (v := ?_) (a' := ?_) #[true, true, true, true, true, true, false, false, false, false, false, false, false, false, false, false, false, false, false, false] rfl rfl (by kernel_rfl) (fun _ _ _ h => h) (Or.inl ⟨by rfl, ?_⟩) ?_ ?_
  rotate_left
  · intro w'
    go_simp
    with_reducible rfl
  rotate_left
  · simp only [Act.put, List.setIfInBounds_toArray, List.set_cons_zero, List.set_cons_succ, i64_w, i32_w]
    rfl
  refine take_ (i := 6) (N := some 28) (v := ?_) (a' := ?_) #[true, true, true, true, true, true, true, false, false, false, false, false, false, false, false, false, false, false, false, false] rfl rfl (by kernel_rfl) (fun _ _ _ h => h) (Or.inl ⟨by rfl, ?_⟩) hHeld ?_ ?_
  rotate_left
  · rintro w' hS
    have y1 := Hn0.out w' hS
    go_simp
    with_reducible rfl
  rotate_left
  · simp only [Act.put, List.setIfInBounds_toArray, List.set_cons_zero, List.set_cons_succ, i64_w, i32_w]
    rfl
  refine pure_ (i := 7) (N := some 29) (v := ?_) (a' := ?_) #[true, true, true, true, true, true, true, true, false, false, false, false, false, false, false, false, false, false, false, false] rfl rfl (by kernel_rfl) (fun _ _ _ h => h) (Or.inl ⟨by rfl, ?_⟩) ?_ ?_
  rotate_left
  · intro w'
    go_simp
    with_reducible rfl
  rotate_left
  · simp only [Act.put, List.setIfInBounds_toArray, List.set_cons_zero, List.set_cons_succ, i64_w, i32_w]
    rfl
  refine pure_ (i := 8) (N := some 30) (v := ?_) (a' := ?_) #[true, true, true, true, true, true, true, true, true, false, false, false, false, false, false, false, false, false, false, false] rfl rfl (by kernel_rfl) (fun _ _ _ h => h) (Or.inl ⟨by rfl, ?_⟩) ?_ ?_
  rotate_left
  · intro w'
    go_simp
    with_reducible rfl
  rotate_left
  · simp only [Act.put, List.setIfInBounds_toArray, List.set_cons_zero, List.set_cons_succ, i64_w, i32_w]
    rfl
  try rw [show IntKind.u8.wrap 0 = 0 from rfl]
  refine pure_ (i := 9) (N := some 31) (v := ?_) (a' := ?_) #[true, true, true, true, true, true, true, true, true, true, false, false, false, false, false, false, false, false, false, false] rfl rfl (by kernel_rfl) (fun _ _ _ h => h) (Or.inl ⟨by rfl, ?_⟩) ?_ ?_
  rotate_left
  · intro w'
    go_simp
    with_reducible rfl
  rotate_left
  · simp only [Act.put, List.setIfInBounds_toArray, List.set_cons_zero, List.set_cons_succ, i64_w, i32_w]
    rfl
  refine pure_ (i := 10) (N := some 32) (v := ?_) (a' := ?_) #[true, true, true, true, true, true, true, true, true, true, true, false, false, false, false, false, false, false, false, false] rfl rfl (by kernel_rfl) (fun _ _ _ h => h) (Or.inl ⟨by rfl, ?_⟩) ?_ ?_
  rotate_left
  · intro w'
    go_simp
    with_reducible rfl
  rotate_left
  · simp only [Act.put, List.setIfInBounds_toArray, List.set_cons_zero, List.set_cons_succ, i64_w, i32_w]
    rfl
  refine take_ (i := 11) (N := some 33) (v := ?_) (a' := ?_) #[true, true, true, true, true, true, true, true, true, true, true, true, false, false, false, false, false, false, false, false] rfl rfl (by kernel_rfl) (fun _ _ _ h => h) (Or.inl ⟨by rfl, ?_⟩) hHeld ?_ ?_
  rotate_left
  · rintro w' hS
    have y1 := Hn1.out w' hS
    go_simp
    with_reducible rfl
  rotate_left
  · simp only [Act.put, List.setIfInBounds_toArray, List.set_cons_zero, List.set_cons_succ, i64_w, i32_w]
    rfl
  refine pure_ (i := 12) (N := some 34) (v := ?_) (a' := ?_) #[true, true, true, true, true, true, true, true, true, true, true, true, true, false, false, false, false, false, false, false] rfl rfl (by kernel_rfl) (fun _ _ _ h => h) (Or.inl ⟨by rfl, ?_⟩) ?_ ?_
  rotate_left
  · intro w'
    go_simp
    with_reducible rfl
  rotate_left
  · simp only [Act.put, List.setIfInBounds_toArray, List.set_cons_zero, List.set_cons_succ, i64_w, i32_w]
    rfl
  try rw [hz64]
  refine pure_ (i := 13) (N := some 35) (v := ?_) (a' := ?_) #[true, true, true, true, true, true, true, true, true, true, true, true, true, true, false, false, false, false, false, false] rfl rfl (by kernel_rfl) (fun _ _ _ h => h) (Or.inl ⟨by rfl, ?_⟩) ?_ ?_
  rotate_left
  · intro w'
    go_simp
    with_reducible rfl
  rotate_left
  · simp only [Act.put, List.setIfInBounds_toArray, List.set_cons_zero, List.set_cons_succ, i64_w, i32_w]
    rfl
  refine pure_ (i := 14) (N := some 36) (v := ?_) (a' := ?_) #[true, true, true, true, true, true, true, true, true, true, true, true, true, true, true, false, false, false, false, false] rfl rfl (by kernel_rfl) (fun _ _ _ h => h) (Or.inl ⟨by rfl, ?_⟩) ?_ ?_
  rotate_left
  · intro w'
    go_simp
    with_reducible rfl
  rotate_left
  · simp only [Act.put, List.setIfInBounds_toArray, List.set_cons_zero, List.set_cons_succ, i64_w, i32_w]
    rfl
  refine take_ (i := 15) (N := some 37) (v := ?_) (a' := ?_) #[true, true, true, true, true, true, true, true, true, true, true, true, true, true, true, true, false, false, false, false] rfl rfl (by kernel_rfl) (fun _ _ _ h => h) (Or.inl ⟨by rfl, ?_⟩) hHeld ?_ ?_
  rotate_left
  · rintro w' hS
    have y1 := Hn2.out w' hS
    go_simp
    with_reducible rfl
  rotate_left
  · simp only [Act.put, List.setIfInBounds_toArray, List.set_cons_zero, List.set_cons_succ, i64_w, i32_w]
    rfl
  refine pure_ (i := 16) (N := some 38) (v := ?_) (a' := ?_) #[true, true, true, true, true, true, true, true, true, true, true, true, true, true, true, true, true, false, false, false] rfl rfl (by kernel_rfl) (fun _ _ _ h => h) (Or.inl ⟨by rfl, ?_⟩) ?_ ?_
  rotate_left
  · intro w'
    go_simp
    with_reducible rfl
  rotate_left
  · simp only [Act.put, List.setIfInBounds_toArray, List.set_cons_zero, List.set_cons_succ, i64_w, i32_w]
    rfl
  try rw [hz64]
  refine pure_ (i := 17) (N := some 39) (v := .agg #[Value.int IntKind.u8 1, Value.int IntKind.u8 0, Value.int IntKind.i64 0, Value.int IntKind.i64 s, Value.int IntKind.i64 0, Value.int IntKind.i64 0, Value.int IntKind.i64 0, Value.int IntKind.i64 0, Value.int IntKind.i64 0, Value.int IntKind.i64 0, Value.int IntKind.i64 0, Value.int IntKind.i64 0, Value.int IntKind.i64 0, Value.int IntKind.i64 0]) (a' := ?_) #[true, true, true, true, true, true, true, true, true, true, true, true, true, true, true, true, true, true, false, false] rfl rfl (by kernel_rfl) (fun _ _ _ h => h) (yields_build (by rfl) 83 #[(0, .tmp 25), (1, .tmp 30), (2, .tmp 34), (3, .tmp 38)] rfl [(0, .int .u8 1), (1, .int .u8 0), (2, .int .i64 0), (3, .int .i64 s)] #[Value.int IntKind.u8 1, Value.int IntKind.u8 0, Value.int IntKind.i64 0, Value.int IntKind.i64 s, Value.int IntKind.i64 0, Value.int IntKind.i64 0, Value.int IntKind.i64 0, Value.int IntKind.i64 0, Value.int IntKind.i64 0, Value.int IntKind.i64 0, Value.int IntKind.i64 0, Value.int IntKind.i64 0, Value.int IntKind.i64 0, Value.int IntKind.i64 0] (by simp only [List.map_toArray, List.map_cons, List.map_nil]; rfl) (by kernel_rfl)) ?_ ?_
  rotate_left
  · simp only [Act.put, List.setIfInBounds_toArray, List.set_cons_zero, List.set_cons_succ, i64_w, i32_w]
    rfl
  refine one_ (i := 18) (N := some 6) #[true, true, true, true, true, true, true, true, true, true, true, true, true, true, true, true, true, true, true, false] rfl rfl (by kernel_rfl) (by decide) (fun K hK => ?_)
  refine value_ (by rfl) rfl (run_exec_allocI rfl _) ?_
  refine hK.out _ _ (below_alloc hHeld _) (fun hHeld => ?_)
  clear hK K
  refine norm_ (a' := ?_) ?_ ?_
  rotate_left
  · show Act.put _ (some 6) _ = _
    simp only [Act.put, List.setIfInBounds_toArray, List.set_cons_zero, List.set_cons_succ, i64_w, i32_w]
    rfl
  refine last_ (i := 19) (N := none) #[true, true, true, true, true, true, true, true, true, true, true, true, true, true, true, true, true, true, true, true] rfl rfl (by kernel_rfl) (by decide) (fun K hK => ?_)
  refine skip_ (by rfl) rfl (run_exec_store rfl rfl rfl (store_row (W := w2.drew.alloc (.cells inoZ 83)) (old := inoZ) (ty := 83) (cells := #[Value.int IntKind.u8 1, Value.int IntKind.u8 0, Value.int IntKind.i64 0, Value.int IntKind.i64 s, Value.int IntKind.i64 0, Value.int IntKind.i64 0, Value.int IntKind.i64 0, Value.int IntKind.i64 0, Value.int IntKind.i64 0, Value.int IntKind.i64 0, Value.int IntKind.i64 0, Value.int IntKind.i64 0, Value.int IntKind.i64 0, Value.int IntKind.i64 0]) (blk_new w2.drew _) (by rw [sz_ino]; rfl) rfl (by simp [Value.oneCell']))) ?_
  refine hK.out _ _ ?_
  clear hK K
  refine done_ (by kernel_rfl) ?_
  clear Hn0 Hn1 Hn2 hz64
  have e0 : w2.drew.heap.size = w2.heap.size := rfl
  rw [e0]
  obtain ⟨w3, hw3⟩ : ∃ w3, (w2.drew.alloc (Obj.cells inoZ 83)).setRow w2.heap.size #[Value.int IntKind.u8 1, Value.int IntKind.u8 0, Value.int IntKind.i64 0, Value.int IntKind.i64 s, Value.int IntKind.i64 0, Value.int IntKind.i64 0, Value.int IntKind.i64 0, Value.int IntKind.i64 0, Value.int IntKind.i64 0, Value.int IntKind.i64 0, Value.int IntKind.i64 0, Value.int IntKind.i64 0, Value.int IntKind.i64 0, Value.int IntKind.i64 0] = w3 := ⟨_, rfl⟩
  have hb3 : w3.heap[w2.heap.size]? = some (.cells #[Value.int IntKind.u8 1, Value.int IntKind.u8 0, Value.int IntKind.i64 0, Value.int IntKind.i64 s, Value.int IntKind.i64 0, Value.int IntKind.i64 0, Value.int IntKind.i64 0, Value.int IntKind.i64 0, Value.int IntKind.i64 0, Value.int IntKind.i64 0, Value.int IntKind.i64 0, Value.int IntKind.i64 0, Value.int IntKind.i64 0, Value.int IntKind.i64 0] 83 (0, 0)) := by rw [← hw3]; exact setRow_heap _ _ _ _ _ _ (blk_new w2.drew _)
  have hB3 : Below w2.heap.size w2 w3 := by rw [← hw3]; exact below_setRow hHeld (Nat.le_refl _) _
  rw [hw3]
  have Hb3 := Lib.hid hb3
  have HB3 := Lib.hid hB3
  have hne3 : ¬ c8 = 3 := by have := Hc8.out; omega
  have hne10 : ¬ c8 - 3 = 10 := by have := Hc8.out; omega
  clear hw3 hb3 hB3 e0
  go_wp2_with fail
  go_loopg [8, 42] 8 (fun q _ i wr => ∃ k, k + q = 8 ∧ i = .int .i64 (k : Int) ∧ Hid (wr.heap[w2.heap.size]? = some (.cells #[Value.int IntKind.u8 1, Value.int IntKind.u8 0, Value.int IntKind.i64 0, Value.int IntKind.i64 s, Value.int IntKind.i64 0, Value.int IntKind.i64 0, Value.int IntKind.i64 0, Value.int IntKind.i64 0, Value.int IntKind.i64 0, Value.int IntKind.i64 0, Value.int IntKind.i64 0, Value.int IntKind.i64 0, Value.int IntKind.i64 0, Value.int IntKind.i64 0] 83 (0, 0))) ∧ Hid (Below w2.heap.size w2 wr))
  case atStart => exact ⟨0, rfl, rfl, Hb3, HB3⟩
  case round =>
    clear Hb3 HB3
    obtain ⟨k, hq, rfl, hb, hB⟩ := hrel
    cases gk with
    | zero =>
      obtain rfl : k = 8 := by omega
      have hn : ∀ j, 3 ≤ j → j < 16 → Hid (∀ w', Below w2.heap.size w2 w' → w'.cell? ⟨g8, j, none⟩ = some (.int .u64 0)) := by
        intro j h3 h16
        refine Lib.hid (fun w' hS => ?_)
        rw [(Hnn.out j (by rw [inoT_len]; exact h16)).out w' hS, inoT_zero h3]
      have Hn11 := hn 11 (by omega) (by omega)
      have Hn12 := hn 12 (by omega) (by omega)
      have Hn := Lib.hid hn
      have hI : InoS w2 w2.heap.size #[Value.int IntKind.u8 1, Value.int IntKind.u8 0, Value.int IntKind.i64 0, Value.int IntKind.i64 s, Value.int IntKind.i64 0, Value.int IntKind.i64 0, Value.int IntKind.i64 0, Value.int IntKind.i64 0, Value.int IntKind.i64 0, Value.int IntKind.i64 0, Value.int IntKind.i64 0, Value.int IntKind.i64 0, Value.int IntKind.i64 0, Value.int IntKind.i64 0] wr := ⟨hB.out, hb.out⟩
      have HI := Lib.hid hI
      have hz64 : wrap64 0 = 0 := by unfold wrap64; omega
      clear hn hI
      go_wp2_with fail
      refine start_ (n := 12) (S := (InoS w2 w2.heap.size #[Value.int IntKind.u8 1, Value.int IntKind.u8 0, Value.int IntKind.i64 0, Value.int IntKind.i64 s, Value.int IntKind.i64 0, Value.int IntKind.i64 0, Value.int IntKind.i64 0, Value.int IntKind.i64 0, Value.int IntKind.i64 0, Value.int IntKind.i64 0, Value.int IntKind.i64 0, Value.int IntKind.i64 0, Value.int IntKind.i64 0, Value.int IntKind.i64 0])) (ds := []) #[false, false, false, false, false, false, false, false, false, false, false, false] (by kernel_rfl) rfl rfl (HI.out.drew) (fun hHeld => ?_)
      refine pure_ (i := 0) (N := some 54) (v := ?_) (a' := ?_) #[true, false, false, false, false, false, false, false, false, false, false, false] rfl rfl (by kernel_rfl) (fun _ _ _ h => h) (Or.inl ⟨by rfl, ?_⟩) ?_ ?_
      rotate_left
      · intro w'
        go_simp
        with_reducible rfl
      rotate_left
      · simp only [Act.put, List.setIfInBounds_toArray, List.set_cons_zero, List.set_cons_succ, i64_w, i32_w]
        rfl
      refine pure_ (i := 1) (N := some 55) (v := ?_) (a' := ?_) #[true, true, false, false, false, false, false, false, false, false, false, false] rfl rfl (by kernel_rfl) (fun _ _ _ h => h) (Or.inl ⟨by rfl, ?_⟩) ?_ ?_
      rotate_left
      · intro w'
        go_simp
        with_reducible rfl
      rotate_left
      · simp only [Act.put, List.setIfInBounds_toArray, List.set_cons_zero, List.set_cons_succ, i64_w, i32_w]
        rfl
      refine take_ (i := 2) (N := some 56) (v := ?_) (a' := ?_) #[true, true, true, false, false, false, false, false, false, false, false, false] rfl rfl (by kernel_rfl) (fun _ _ _ h => h) (Or.inl ⟨by rfl, ?_⟩) hHeld ?_ ?_
      rotate_left
      · rintro w' hS
        have y1 := Hn11.out w' hS.below
        go_simp
        with_reducible rfl
      rotate_left
      · simp only [Act.put, List.setIfInBounds_toArray, List.set_cons_zero, List.set_cons_succ, i64_w, i32_w]
        rfl
      refine pure_ (i := 3) (N := some 57) (v := ?_) (a' := ?_) #[true, true, true, true, false, false, false, false, false, false, false, false] rfl rfl (by kernel_rfl) (fun _ _ _ h => h) (Or.inl ⟨by rfl, ?_⟩) ?_ ?_
      rotate_left
      · intro w'
        go_simp
        with_reducible rfl
      rotate_left
      · simp only [Act.put, List.setIfInBounds_toArray, List.set_cons_zero, List.set_cons_succ, i64_w, i32_w]
        rfl
      try rw [hz64]
      refine pure_ (i := 4) (N := some 58) (v := ?_) (a' := ?_) #[true, true, true, true, true, false, false, false, false, false, false, false] rfl rfl (by kernel_rfl) (fun _ _ _ h => h) (Or.inl ⟨by rfl, ?_⟩) ?_ ?_
      rotate_left
      · intro w'
        go_simp
        with_reducible rfl
      rotate_left
      · simp only [Act.put, List.setIfInBounds_toArray, List.set_cons_zero, List.set_cons_succ, i64_w, i32_w]
        rfl
      refine pure_ (i := 5) (N := some 59) (v := ?_) (a' := ?_) #[true, true, true, true, true, true, false, false, false, false, false, false] rfl rfl (by kernel_rfl) (fun _ _ _ h => h) (Or.inl ⟨by rfl, ?_⟩) ?_ ?_
      rotate_left
      · intro w'
        go_simp
        with_reducible rfl
      rotate_left
      · simp only [Act.put, List.setIfInBounds_toArray, List.set_cons_zero, List.set_cons_succ, i64_w, i32_w]
        rfl
      refine take_ (i := 6) (N := some 60) (v := ?_) (a' := ?_) #[true, true, true, true, true, true, true, false, false, false, false, false] rfl rfl (by kernel_rfl) (fun _ _ _ h => h) (Or.inl ⟨by rfl, ?_⟩) hHeld ?_ ?_
      rotate_left
      · rintro w' hS
        have y1 := Hn12.out w' hS.below
        go_simp
        with_reducible rfl
      rotate_left
      · simp only [Act.put, List.setIfInBounds_toArray, List.set_cons_zero, List.set_cons_succ, i64_w, i32_w]
        rfl
      refine pure_ (i := 7) (N := some 61) (v := ?_) (a' := ?_) #[true, true, true, true, true, true, true, true, false, false, false, false] rfl rfl (by kernel_rfl) (fun _ _ _ h => h) (Or.inl ⟨by rfl, ?_⟩) ?_ ?_
      rotate_left
      · intro w'
        go_simp
        with_reducible rfl
      rotate_left
      · simp only [Act.put, List.setIfInBounds_toArray, List.set_cons_zero, List.set_cons_succ, i64_w, i32_w]
        rfl
      try rw [hz64]
      refine pure_ (i := 8) (N := some 62) (v := ?_) (a' := ?_) #[true, true, true, true, true, true, true, true, true, false, false, false] rfl rfl (by kernel_rfl) (fun _ _ _ h => h) (Or.inl ⟨by rfl, ?_⟩) ?_ ?_
      rotate_left
      · intro w'
        go_simp
        with_reducible rfl
      rotate_left
      · simp only [Act.put, List.setIfInBounds_toArray, List.set_cons_zero, List.set_cons_succ, i64_w, i32_w]
        rfl
      refine one_ (i := 9) (N := none) #[true, true, true, true, true, true, true, true, true, true, false, false] rfl rfl (by kernel_rfl) (by decide) (fun K hK => ?_)
      have c1 := blk_cell hHeld.at_ 12
      have f1 := blk_frozen hHeld.at_ 12
      rw [if_pos (by rfl)]
      unfold Oper.wp
      go_simp
      refine hK.out _ _ (hHeld.put (Nat.le_refl _) 12 (.int .i64 0) rfl) (fun hHeld => ?_)
      clear hK K
      refine pure_ (i := 10) (N := some 63) (v := ?_) (a' := ?_) #[true, true, true, true, true, true, true, true, true, true, true, false] rfl rfl (by kernel_rfl) (fun _ _ _ h => h) (Or.inl ⟨by rfl, ?_⟩) ?_ ?_
      rotate_left
      · intro w'
        go_simp
        with_reducible rfl
      rotate_left
      · simp only [Act.put, List.setIfInBounds_toArray, List.set_cons_zero, List.set_cons_succ, i64_w, i32_w]
        rfl
      refine one_ (i := 11) (N := none) #[true, true, true, true, true, true, true, true, true, true, true, true] rfl rfl (by kernel_rfl) (by decide) (fun K hK => ?_)
      have c1 := blk_cell hHeld.at_ 13
      have f1 := blk_frozen hHeld.at_ 13
      rw [if_pos (by rfl)]
      unfold Oper.wp
      go_simp
      refine hK.out _ _ (hHeld.put (Nat.le_refl _) 13 (.int .i64 0) rfl) (fun hHeld => ?_)
      clear hK K
      refine done_ (by kernel_rfl) ?_
      go_wp2_with fail
      obtain ⟨w9, hw9⟩ : ∃ w9, ((wr.setCell ⟨w2.heap.size, 12, none⟩ (.int .i64 0)).setCell ⟨w2.heap.size, 13, none⟩ (.int .i64 0)).drew = w9 := ⟨_, rfl⟩
      have hI9 : InoS w2 w2.heap.size #[Value.int IntKind.u8 1, Value.int IntKind.u8 0, Value.int IntKind.i64 0, Value.int IntKind.i64 s, Value.int IntKind.i64 0, Value.int IntKind.i64 0, Value.int IntKind.i64 0, Value.int IntKind.i64 0, Value.int IntKind.i64 0, Value.int IntKind.i64 0, Value.int IntKind.i64 0, Value.int IntKind.i64 0, Value.int IntKind.i64 0, Value.int IntKind.i64 0] w9 := by rw [← hw9]; exact hHeld
      rw [hw9]
      clear hw9 hHeld c1 f1 hb hB HI Hn11 Hn12 hz64 hq
      have hC9 : Kd.C (Kd.int .u64) w9 (some ⟨g8, 13, none⟩) 3 [0, 0, 0] := by
        refine C_cells (xs := [0, 0, 0]) (fun i hi => ?_) (by simp)
        have hi3 : i < 3 := by simpa using hi
        rw [Addr.add_mid, (Hn.out (13 + i) (by omega) (by omega)).out w9 hI9.below]
        rcases (show i = 0 ∨ i = 1 ∨ i = 2 by omega) with rfl | rfl | rfl <;> rfl
      refine (containsfunc0 ⟨g8, 13, none⟩ _ w9 hC9).mono ?_
      rintro e w10 ⟨rfl, hB10⟩
      have hb10 := blk_below hI9.at_ hB10
      have hBa := below_step hI9.below hB10
      have x0 : w10.cell? ⟨w2.heap.size, 0, none⟩ = some (.int .u8 1) := blk_cell hb10 0
      have x1 : w10.cell? ⟨w2.heap.size, 1, none⟩ = some (.int .u8 0) := blk_cell hb10 1
      have x2 : w10.cell? ⟨w2.heap.size, 2, none⟩ = some (.int .i64 0) := blk_cell hb10 2
      have x3 : w10.cell? ⟨w2.heap.size, 3, none⟩ = some (.int .i64 s) := blk_cell hb10 3
      have x4 : w10.cell? ⟨w2.heap.size, 4, none⟩ = some (.int .i64 0) := blk_cell hb10 4
      have x5 : w10.cell? ⟨w2.heap.size, 5, none⟩ = some (.int .i64 0) := blk_cell hb10 5
      have x6 : w10.cell? ⟨w2.heap.size, 6, none⟩ = some (.int .i64 0) := blk_cell hb10 6
      have x7 : w10.cell? ⟨w2.heap.size, 7, none⟩ = some (.int .i64 0) := blk_cell hb10 7
      have x8 : w10.cell? ⟨w2.heap.size, 8, none⟩ = some (.int .i64 0) := blk_cell hb10 8
      have x9 : w10.cell? ⟨w2.heap.size, 9, none⟩ = some (.int .i64 0) := blk_cell hb10 9
      have x10 : w10.cell? ⟨w2.heap.size, 10, none⟩ = some (.int .i64 0) := blk_cell hb10 10
      have x11 : w10.cell? ⟨w2.heap.size, 11, none⟩ = some (.int .i64 0) := blk_cell hb10 11
      have x12 : w10.cell? ⟨w2.heap.size, 12, none⟩ = some (.int .i64 0) := blk_cell hb10 12
      have x13 : w10.cell? ⟨w2.heap.size, 13, none⟩ = some (.int .i64 0) := blk_cell hb10 13
      have Hb10 := Lib.hid hb10
      have HBa := Lib.hid hBa
      clear hb10 hBa hI9 hB10 hC9
      go_wp2_with fail
      clear x0 x1 x2 x3 x4 x5 x6 x7 x8 x9 x10 x11 x12 x13
      refine (inoright1 s w10 h0 h1).mono ?_
      rintro e w11 ⟨rfl, hB11⟩
      have hb11 := blk_below Hb10.out hB11
      have hBb := below_step HBa.out hB11
      have hz11 := blk_below Hb2.out hBb
      have hload := Lib.hid (run_loadAt_mid (P := Try.prog) w11 w2.heap.size 0 83 (inoC (1, s)) _ (fun j v hj => by rw [Nat.zero_add, blk_cell hb11]; simpa [inoC] using hj) Try.underlying83 rfl (by rw [sz_ino]; rfl))
      have hstore := Lib.hid (store_row (W := w11) (ty := 83) (cells := (inoC (1, s)).toArray) hz11 (by rw [sz_ino]; rfl) rfl (by simp [inoC, Value.oneCell']))
      have Hz11 := Lib.hid hz11
      have HBb := Lib.hid (below_step HB2.out hBb)
      clear hb11 hBb hz11 hB11
      go_wp2_with (first | ((with_reducible refine gate_load 83 (.tmp 6) rfl ?_); refine wpList_load_eq rfl _ _ rfl _ _ rfl hload.out ?_) | ((with_reducible refine gate_store 83 (.tmp 2) (.tmp 73) rfl ?_); refine wpList_store_eq rfl _ _ _ rfl _ _ rfl rfl hstore.out ?_))
      refine bodyPost_ret (results_cell_tmp rfl _ _ w.heap.size 83 (inoC (1, s)).toArray (0, 0) _ rfl ?_ Try.underlying83 rfl (by rw [sz_ino]; rfl)) rfl ?_
      · exact setRow_heap w11 _ _ _ _ _ Hz11.out
      · exact ⟨rfl, below_setRow HBb.out (Nat.le_refl _) _⟩
    | succ q =>
      have d1 : decide ((k : Int) < 8) = true := decide_eq_true (by omega)
      have q0 : 0 ≤ (k : Int) := by omega
      have q1 : (k : Int) < 8 := by omega
      have q2 : (k : Int) < 13 := by omega
      have hc0 : wr.cell? ⟨g8, 3 + k, none⟩ = some (.int .u64 0) := by
        have h := (Hnn.out (3 + k) (by rw [inoT_len]; omega)).out wr hB.out
        rw [h]
        rcases (show k = 0 ∨ k = 1 ∨ k = 2 ∨ k = 3 ∨ k = 4 ∨ k = 5 ∨ k = 6 ∨ k = 7 by omega) with rfl | rfl | rfl | rfl | rfl | rfl | rfl | rfl <;> rfl
      have hc1 : wr.cell? ⟨w2.heap.size, 4 + k, none⟩ = some (.int .i64 0) := by
        rw [blk_cell hb.out]
        rcases (show k = 0 ∨ k = 1 ∨ k = 2 ∨ k = 3 ∨ k = 4 ∨ k = 5 ∨ k = 6 ∨ k = 7 by omega) with rfl | rfl | rfl | rfl | rfl | rfl | rfl | rfl <;> rfl
      have hf1 : wr.frozen? ⟨w2.heap.size, 4 + k, none⟩ = false := blk_frozen hb.out (4 + k)
      have hb' := blk_put hb.out (4 + k) (.int .i64 0) (cs' := #[Value.int IntKind.u8 1, Value.int IntKind.u8 0, Value.int IntKind.i64 0, Value.int IntKind.i64 s, Value.int IntKind.i64 0, Value.int IntKind.i64 0, Value.int IntKind.i64 0, Value.int IntKind.i64 0, Value.int IntKind.i64 0, Value.int IntKind.i64 0, Value.int IntKind.i64 0, Value.int IntKind.i64 0, Value.int IntKind.i64 0, Value.int IntKind.i64 0]) (by
        rcases (show k = 0 ∨ k = 1 ∨ k = 2 ∨ k = 3 ∨ k = 4 ∨ k = 5 ∨ k = 6 ∨ k = 7 by omega) with rfl | rfl | rfl | rfl | rfl | rfl | rfl | rfl <;> rfl)
      have Hb' := Lib.hid hb'
      have HB' := Lib.hid (hB.out.setCell (p := ⟨w2.heap.size, 4 + k, none⟩) (Nat.le_refl _) (.int .i64 0))
      clear hb'
      go_wp2_with fail
      go_roundg q
      case measure => omega
      case rel => exact ⟨k + 1, by omega, by go_num, Hb', HB'⟩
set_option maxHeartbeats 8000000 in
set_option maxRecDepth 100000 in
theorem inotake0 (ad : Addr) (c0 : Nat) (w : World) (h : Kd.C (Kd.int .u8) w (some ad) 32 (inoB (0, 0))) (hc : 32 ≤ c0) : Calls Try.prog 54 #[.slice (some ad) 32 c0] w fun e w' => e = .returned (.tuple #[.agg (inoC (0, 0)).toArray, .int .i64 0]) ∧ Below w.heap.size w w' := by
  have hs2 : IntKind.i64.wrap 0 = 0 := rfl
  have HC := Lib.hid h
  have Hc := Lib.hid hc
  clear h hc
  go_enter Try.func54, Try.ntmps54
  go_wp2_with fail
  obtain ⟨wa, hwa⟩ : ∃ wa, w.alloc (Obj.cells inoZ 83) = wa := ⟨_, rfl⟩
  have hb : wa.heap[w.heap.size]? = some (.cells inoZ 83 (0, 0)) := by rw [← hwa]; exact blk_new _ _
  have hB : Below w.heap.size w wa := by rw [← hwa]; exact below_alloc (Below.refl _ _) _
  unfold inoZ at hwa
  rw [hwa]
  refine (take_any 2 32 (some ad) c0 (inoT (0, 0)) wa (by omega) (by omega) (by rw [inoT_len]) (by omega) (by rw [inoT_lay]; exact Kd.C_below HC.out hB) Hc.out (inoT_range (.inl ⟨rfl, rfl⟩))).mono ?_
  rintro e w2 ⟨v2, rfl, hR2, hB2⟩
  have hb2 := blk_below hb hB2
  have HB2 := Lib.hid (below_step hB hB2)
  obtain ⟨g8, c8, rfl⟩ := R_some hR2 (by rw [inoT_len]; decide)
  have hC2 := Kd.F_now (Kd.R_F hR2)
  obtain ⟨A', c', e', hc8, hdel⟩ := Kd.R_reads hR2
  rw [inoT_len] at hC2 e' hc8 ⊢
  injection e' with e1 e2 e3
  subst e3
  have Hc8 := Lib.hid hc8
  have HC2 := Lib.hid hC2
  have Hb2 := Lib.hid hb2
  clear hb hB hwa hB2 hR2 hC2 hc8 hb2 e1 e2 hdel A'
  have hn : ∀ (j : Nat) (hj : j < (inoT (0, 0)).length), Hid (∀ w', Below w2.heap.size w2 w' → w'.cell? ⟨g8, j, none⟩ = some (.int .u64 (inoT (0, 0))[j])) := by
    intro j hj
    refine Lib.hid (fun w' hS => ?_)
    obtain ⟨ad', e, hc0⟩ := at_int HC2.out j hj
    injection e with e
    subst e
    rw [Addr.add_mid, Nat.zero_add] at hc0
    rw [hS.cell (World.block_lt_of_cell? w2 _ hc0)]
    exact hc0
  have Hn0 : Hid (∀ w', Below w2.heap.size w2 w' → w'.cell? ⟨g8, 0, none⟩ = some (.int .u64 0)) := hn 0 (by rw [inoT_len]; decide)
  have Hn1 : Hid (∀ w', Below w2.heap.size w2 w' → w'.cell? ⟨g8, 1, none⟩ = some (.int .u64 0)) := hn 1 (by rw [inoT_len]; decide)
  have Hn2 : Hid (∀ w', Below w2.heap.size w2 w' → w'.cell? ⟨g8, 2, none⟩ = some (.int .u64 0)) := hn 2 (by rw [inoT_len]; decide)
  have Hnn := Lib.hid hn
  clear hn
  go_wp2_with fail
  have hz64 : wrap64 0 = 0 := by unfold wrap64; omega
  refine start_ (n := 20) (S := (fun W => Below w2.heap.size w2 W)) (ds := [19]) #[false, false, false, false, false, false, false, false, false, false, false, false, false, false, false, false, false, false, false, false] (by kernel_rfl) rfl rfl (below_drew (Below.refl _ _)) (fun hHeld => ?_)
  refine pure_ (i := 0) (N := some 22) (v := ?_) (a' := ?_) #[true, false, false, false, false, false, false, false, false, false, false, false, false, false, false, false, false, false, false, false] rfl rfl (by kernel_rfl) (fun _ _ _ h => h) (Or.inl ⟨by rfl, ?_⟩) ?_ ?_
  rotate_left
  · intro w'
    go_simp
    with_reducible rfl
  rotate_left
  · simp only [Act.put, List.setIfInBounds_toArray, List.set_cons_zero, List.set_cons_succ, i64_w, i32_w]
    rfl
  refine pure_ (i := 1) (N := some 23) (v := ?_) (a' := ?_) #[true, true, false, false, false, false, false, false, false, false, false, false, false, false, false, false, false, false, false, false] rfl rfl (by kernel_rfl) (fun _ _ _ h => h) (Or.inl ⟨by rfl, ?_⟩) ?_ ?_
  rotate_left
  · intro w'
    go_simp
    with_reducible rfl
  rotate_left
  · simp only [Act.put, List.setIfInBounds_toArray, List.set_cons_zero, List.set_cons_succ, i64_w, i32_w]
    rfl
  refine take_ (i := 2) (N := some 24) (v := ?_) (a' := ?_) #[true, true, true, false, false, false, false, false, false, false, false, false, false, false, false, false, false, false, false, false] rfl rfl (by kernel_rfl) (fun _ _ _ h => h) (Or.inl ⟨by rfl, ?_⟩) hHeld ?_ ?_
  rotate_left
  · rintro w' hS
    have y1 := Hn0.out w' hS
    go_simp
    with_reducible rfl
  rotate_left
  · simp only [Act.put, List.setIfInBounds_toArray, List.set_cons_zero, List.set_cons_succ, i64_w, i32_w]
    rfl
  refine pure_ (i := 3) (N := some 25) (v := ?_) (a' := ?_) #[true, true, true, true, false, false, false, false, false, false, false, false, false, false, false, false, false, false, false, false] rfl rfl (by kernel_rfl) (fun _ _ _ h => h) (Or.inl ⟨by rfl, ?_⟩) ?_ ?_
  rotate_left
  · intro w'
    go_simp
    with_reducible rfl
  rotate_left
  · simp only [Act.put, List.setIfInBounds_toArray, List.set_cons_zero, List.set_cons_succ, i64_w, i32_w]
    rfl
  try rw [show IntKind.u8.wrap 0 = 0 from rfl]
  refine pure_ (i := 4) (N := some 26) (v := ?_) (a' := ?_) #[true, true, true, true, true, false, false, false, false, false, false, false, false, false, false, false, false, false, false, false] rfl rfl (by kernel_rfl) (fun _ _ _ h => h) (Or.inl ⟨by rfl, ?_⟩) ?_ ?_
  rotate_left
  · intro w'
    go_simp
    with_reducible rfl
  rotate_left
  · simp only [Act.put, List.setIfInBounds_toArray, List.set_cons_zero, List.set_cons_succ, i64_w, i32_w]
    rfl
  refine pure_ (i := 5) (N := some 27) (v := ?_) (a' := ?_) #[true, true, true, true, true, true, false, false, false, false, false, false, false, false, false, false, false, false, false, false] rfl rfl (by kernel_rfl) (fun _ _ _ h => h) (Or.inl ⟨by rfl, ?_⟩) ?_ ?_
  rotate_left
  · intro w'
    go_simp
    with_reducible rfl
  rotate_left
  · simp only [Act.put, List.setIfInBounds_toArray, List.set_cons_zero, List.set_cons_succ, i64_w, i32_w]
    rfl
  refine take_ (i := 6) (N := some 28) (v := ?_) (a' := ?_) #[true, true, true, true, true, true, true, false, false, false, false, false, false, false, false, false, false, false, false, false] rfl rfl (by kernel_rfl) (fun _ _ _ h => h) (Or.inl ⟨by rfl, ?_⟩) hHeld ?_ ?_
  rotate_left
  · rintro w' hS
    have y1 := Hn0.out w' hS
    go_simp
    with_reducible rfl
  rotate_left
  · simp only [Act.put, List.setIfInBounds_toArray, List.set_cons_zero, List.set_cons_succ, i64_w, i32_w]
    rfl
  refine pure_ (i := 7) (N := some 29) (v := ?_) (a' := ?_) #[true, true, true, true, true, true, true, true, false, false, false, false, false, false, false, false, false, false, false, false] rfl rfl (by kernel_rfl) (fun _ _ _ h => h) (Or.inl ⟨by rfl, ?_⟩) ?_ ?_
  rotate_left
  · intro w'
    go_simp
    with_reducible rfl
  rotate_left
  · simp only [Act.put, List.setIfInBounds_toArray, List.set_cons_zero, List.set_cons_succ, i64_w, i32_w]
    rfl
  refine pure_ (i := 8) (N := some 30) (v := ?_) (a' := ?_) #[true, true, true, true, true, true, true, true, true, false, false, false, false, false, false, false, false, false, false, false] rfl rfl (by kernel_rfl) (fun _ _ _ h => h) (Or.inl ⟨by rfl, ?_⟩) ?_ ?_
  rotate_left
  · intro w'
    go_simp
    with_reducible rfl
  rotate_left
  · simp only [Act.put, List.setIfInBounds_toArray, List.set_cons_zero, List.set_cons_succ, i64_w, i32_w]
    rfl
  try rw [show IntKind.u8.wrap 0 = 0 from rfl]
  refine pure_ (i := 9) (N := some 31) (v := ?_) (a' := ?_) #[true, true, true, true, true, true, true, true, true, true, false, false, false, false, false, false, false, false, false, false] rfl rfl (by kernel_rfl) (fun _ _ _ h => h) (Or.inl ⟨by rfl, ?_⟩) ?_ ?_
  rotate_left
  · intro w'
    go_simp
    with_reducible rfl
  rotate_left
  · simp only [Act.put, List.setIfInBounds_toArray, List.set_cons_zero, List.set_cons_succ, i64_w, i32_w]
    rfl
  refine pure_ (i := 10) (N := some 32) (v := ?_) (a' := ?_) #[true, true, true, true, true, true, true, true, true, true, true, false, false, false, false, false, false, false, false, false] rfl rfl (by kernel_rfl) (fun _ _ _ h => h) (Or.inl ⟨by rfl, ?_⟩) ?_ ?_
  rotate_left
  · intro w'
    go_simp
    with_reducible rfl
  rotate_left
  · simp only [Act.put, List.setIfInBounds_toArray, List.set_cons_zero, List.set_cons_succ, i64_w, i32_w]
    rfl
  refine take_ (i := 11) (N := some 33) (v := ?_) (a' := ?_) #[true, true, true, true, true, true, true, true, true, true, true, true, false, false, false, false, false, false, false, false] rfl rfl (by kernel_rfl) (fun _ _ _ h => h) (Or.inl ⟨by rfl, ?_⟩) hHeld ?_ ?_
  rotate_left
  · rintro w' hS
    have y1 := Hn1.out w' hS
    go_simp
    with_reducible rfl
  rotate_left
  · simp only [Act.put, List.setIfInBounds_toArray, List.set_cons_zero, List.set_cons_succ, i64_w, i32_w]
    rfl
  refine pure_ (i := 12) (N := some 34) (v := ?_) (a' := ?_) #[true, true, true, true, true, true, true, true, true, true, true, true, true, false, false, false, false, false, false, false] rfl rfl (by kernel_rfl) (fun _ _ _ h => h) (Or.inl ⟨by rfl, ?_⟩) ?_ ?_
  rotate_left
  · intro w'
    go_simp
    with_reducible rfl
  rotate_left
  · simp only [Act.put, List.setIfInBounds_toArray, List.set_cons_zero, List.set_cons_succ, i64_w, i32_w]
    rfl
  try rw [hz64]
  refine pure_ (i := 13) (N := some 35) (v := ?_) (a' := ?_) #[true, true, true, true, true, true, true, true, true, true, true, true, true, true, false, false, false, false, false, false] rfl rfl (by kernel_rfl) (fun _ _ _ h => h) (Or.inl ⟨by rfl, ?_⟩) ?_ ?_
  rotate_left
  · intro w'
    go_simp
    with_reducible rfl
  rotate_left
  · simp only [Act.put, List.setIfInBounds_toArray, List.set_cons_zero, List.set_cons_succ, i64_w, i32_w]
    rfl
  refine pure_ (i := 14) (N := some 36) (v := ?_) (a' := ?_) #[true, true, true, true, true, true, true, true, true, true, true, true, true, true, true, false, false, false, false, false] rfl rfl (by kernel_rfl) (fun _ _ _ h => h) (Or.inl ⟨by rfl, ?_⟩) ?_ ?_
  rotate_left
  · intro w'
    go_simp
    with_reducible rfl
  rotate_left
  · simp only [Act.put, List.setIfInBounds_toArray, List.set_cons_zero, List.set_cons_succ, i64_w, i32_w]
    rfl
  refine take_ (i := 15) (N := some 37) (v := ?_) (a' := ?_) #[true, true, true, true, true, true, true, true, true, true, true, true, true, true, true, true, false, false, false, false] rfl rfl (by kernel_rfl) (fun _ _ _ h => h) (Or.inl ⟨by rfl, ?_⟩) hHeld ?_ ?_
  rotate_left
  · rintro w' hS
    have y1 := Hn2.out w' hS
    go_simp
    with_reducible rfl
  rotate_left
  · simp only [Act.put, List.setIfInBounds_toArray, List.set_cons_zero, List.set_cons_succ, i64_w, i32_w]
    rfl
  refine pure_ (i := 16) (N := some 38) (v := ?_) (a' := ?_) #[true, true, true, true, true, true, true, true, true, true, true, true, true, true, true, true, true, false, false, false] rfl rfl (by kernel_rfl) (fun _ _ _ h => h) (Or.inl ⟨by rfl, ?_⟩) ?_ ?_
  rotate_left
  · intro w'
    go_simp
    with_reducible rfl
  rotate_left
  · simp only [Act.put, List.setIfInBounds_toArray, List.set_cons_zero, List.set_cons_succ, i64_w, i32_w]
    rfl
  try rw [hz64]
  refine pure_ (i := 17) (N := some 39) (v := .agg #[Value.int IntKind.u8 0, Value.int IntKind.u8 0, Value.int IntKind.i64 0, Value.int IntKind.i64 0, Value.int IntKind.i64 0, Value.int IntKind.i64 0, Value.int IntKind.i64 0, Value.int IntKind.i64 0, Value.int IntKind.i64 0, Value.int IntKind.i64 0, Value.int IntKind.i64 0, Value.int IntKind.i64 0, Value.int IntKind.i64 0, Value.int IntKind.i64 0]) (a' := ?_) #[true, true, true, true, true, true, true, true, true, true, true, true, true, true, true, true, true, true, false, false] rfl rfl (by kernel_rfl) (fun _ _ _ h => h) (yields_build (by rfl) 83 #[(0, .tmp 25), (1, .tmp 30), (2, .tmp 34), (3, .tmp 38)] rfl [(0, .int .u8 0), (1, .int .u8 0), (2, .int .i64 0), (3, .int .i64 0)] #[Value.int IntKind.u8 0, Value.int IntKind.u8 0, Value.int IntKind.i64 0, Value.int IntKind.i64 0, Value.int IntKind.i64 0, Value.int IntKind.i64 0, Value.int IntKind.i64 0, Value.int IntKind.i64 0, Value.int IntKind.i64 0, Value.int IntKind.i64 0, Value.int IntKind.i64 0, Value.int IntKind.i64 0, Value.int IntKind.i64 0, Value.int IntKind.i64 0] (by simp only [List.map_toArray, List.map_cons, List.map_nil]; rfl) (by kernel_rfl)) ?_ ?_
  rotate_left
  · simp only [Act.put, List.setIfInBounds_toArray, List.set_cons_zero, List.set_cons_succ, i64_w, i32_w]
    rfl
  refine one_ (i := 18) (N := some 6) #[true, true, true, true, true, true, true, true, true, true, true, true, true, true, true, true, true, true, true, false] rfl rfl (by kernel_rfl) (by decide) (fun K hK => ?_)
  refine value_ (by rfl) rfl (run_exec_allocI rfl _) ?_
  refine hK.out _ _ (below_alloc hHeld _) (fun hHeld => ?_)
  clear hK K
  refine norm_ (a' := ?_) ?_ ?_
  rotate_left
  · show Act.put _ (some 6) _ = _
    simp only [Act.put, List.setIfInBounds_toArray, List.set_cons_zero, List.set_cons_succ, i64_w, i32_w]
    rfl
  refine last_ (i := 19) (N := none) #[true, true, true, true, true, true, true, true, true, true, true, true, true, true, true, true, true, true, true, true] rfl rfl (by kernel_rfl) (by decide) (fun K hK => ?_)
  refine skip_ (by rfl) rfl (run_exec_store rfl rfl rfl (store_row (W := w2.drew.alloc (.cells inoZ 83)) (old := inoZ) (ty := 83) (cells := #[Value.int IntKind.u8 0, Value.int IntKind.u8 0, Value.int IntKind.i64 0, Value.int IntKind.i64 0, Value.int IntKind.i64 0, Value.int IntKind.i64 0, Value.int IntKind.i64 0, Value.int IntKind.i64 0, Value.int IntKind.i64 0, Value.int IntKind.i64 0, Value.int IntKind.i64 0, Value.int IntKind.i64 0, Value.int IntKind.i64 0, Value.int IntKind.i64 0]) (blk_new w2.drew _) (by rw [sz_ino]; rfl) rfl (by simp [Value.oneCell']))) ?_
  refine hK.out _ _ ?_
  clear hK K
  refine done_ (by kernel_rfl) ?_
  clear Hn0 Hn1 Hn2 hz64
  have e0 : w2.drew.heap.size = w2.heap.size := rfl
  rw [e0]
  obtain ⟨w3, hw3⟩ : ∃ w3, (w2.drew.alloc (Obj.cells inoZ 83)).setRow w2.heap.size #[Value.int IntKind.u8 0, Value.int IntKind.u8 0, Value.int IntKind.i64 0, Value.int IntKind.i64 0, Value.int IntKind.i64 0, Value.int IntKind.i64 0, Value.int IntKind.i64 0, Value.int IntKind.i64 0, Value.int IntKind.i64 0, Value.int IntKind.i64 0, Value.int IntKind.i64 0, Value.int IntKind.i64 0, Value.int IntKind.i64 0, Value.int IntKind.i64 0] = w3 := ⟨_, rfl⟩
  have hb3 : w3.heap[w2.heap.size]? = some (.cells #[Value.int IntKind.u8 0, Value.int IntKind.u8 0, Value.int IntKind.i64 0, Value.int IntKind.i64 0, Value.int IntKind.i64 0, Value.int IntKind.i64 0, Value.int IntKind.i64 0, Value.int IntKind.i64 0, Value.int IntKind.i64 0, Value.int IntKind.i64 0, Value.int IntKind.i64 0, Value.int IntKind.i64 0, Value.int IntKind.i64 0, Value.int IntKind.i64 0] 83 (0, 0)) := by rw [← hw3]; exact setRow_heap _ _ _ _ _ _ (blk_new w2.drew _)
  have hB3 : Below w2.heap.size w2 w3 := by rw [← hw3]; exact below_setRow hHeld (Nat.le_refl _) _
  rw [hw3]
  have Hb3 := Lib.hid hb3
  have HB3 := Lib.hid hB3
  have hne3 : ¬ c8 = 3 := by have := Hc8.out; omega
  have hne10 : ¬ c8 - 3 = 10 := by have := Hc8.out; omega
  clear hw3 hb3 hB3 e0
  go_wp2_with fail
  go_loopg [8, 42] 8 (fun q _ i wr => ∃ k, k + q = 8 ∧ i = .int .i64 (k : Int) ∧ Hid (wr.heap[w2.heap.size]? = some (.cells #[Value.int IntKind.u8 0, Value.int IntKind.u8 0, Value.int IntKind.i64 0, Value.int IntKind.i64 0, Value.int IntKind.i64 0, Value.int IntKind.i64 0, Value.int IntKind.i64 0, Value.int IntKind.i64 0, Value.int IntKind.i64 0, Value.int IntKind.i64 0, Value.int IntKind.i64 0, Value.int IntKind.i64 0, Value.int IntKind.i64 0, Value.int IntKind.i64 0] 83 (0, 0))) ∧ Hid (Below w2.heap.size w2 wr))
  case atStart => exact ⟨0, rfl, rfl, Hb3, HB3⟩
  case round =>
    clear Hb3 HB3
    obtain ⟨k, hq, rfl, hb, hB⟩ := hrel
    cases gk with
    | zero =>
      obtain rfl : k = 8 := by omega
      have hn : ∀ j, 3 ≤ j → j < 16 → Hid (∀ w', Below w2.heap.size w2 w' → w'.cell? ⟨g8, j, none⟩ = some (.int .u64 0)) := by
        intro j h3 h16
        refine Lib.hid (fun w' hS => ?_)
        rw [(Hnn.out j (by rw [inoT_len]; exact h16)).out w' hS, inoT_zero h3]
      have Hn11 := hn 11 (by omega) (by omega)
      have Hn12 := hn 12 (by omega) (by omega)
      have Hn := Lib.hid hn
      have hI : InoS w2 w2.heap.size #[Value.int IntKind.u8 0, Value.int IntKind.u8 0, Value.int IntKind.i64 0, Value.int IntKind.i64 0, Value.int IntKind.i64 0, Value.int IntKind.i64 0, Value.int IntKind.i64 0, Value.int IntKind.i64 0, Value.int IntKind.i64 0, Value.int IntKind.i64 0, Value.int IntKind.i64 0, Value.int IntKind.i64 0, Value.int IntKind.i64 0, Value.int IntKind.i64 0] wr := ⟨hB.out, hb.out⟩
      have HI := Lib.hid hI
      have hz64 : wrap64 0 = 0 := by unfold wrap64; omega
      clear hn hI
      go_wp2_with fail
      refine start_ (n := 12) (S := (InoS w2 w2.heap.size #[Value.int IntKind.u8 0, Value.int IntKind.u8 0, Value.int IntKind.i64 0, Value.int IntKind.i64 0, Value.int IntKind.i64 0, Value.int IntKind.i64 0, Value.int IntKind.i64 0, Value.int IntKind.i64 0, Value.int IntKind.i64 0, Value.int IntKind.i64 0, Value.int IntKind.i64 0, Value.int IntKind.i64 0, Value.int IntKind.i64 0, Value.int IntKind.i64 0])) (ds := []) #[false, false, false, false, false, false, false, false, false, false, false, false] (by kernel_rfl) rfl rfl (HI.out.drew) (fun hHeld => ?_)
      refine pure_ (i := 0) (N := some 54) (v := ?_) (a' := ?_) #[true, false, false, false, false, false, false, false, false, false, false, false] rfl rfl (by kernel_rfl) (fun _ _ _ h => h) (Or.inl ⟨by rfl, ?_⟩) ?_ ?_
      rotate_left
      · intro w'
        go_simp
        with_reducible rfl
      rotate_left
      · simp only [Act.put, List.setIfInBounds_toArray, List.set_cons_zero, List.set_cons_succ, i64_w, i32_w]
        rfl
      refine pure_ (i := 1) (N := some 55) (v := ?_) (a' := ?_) #[true, true, false, false, false, false, false, false, false, false, false, false] rfl rfl (by kernel_rfl) (fun _ _ _ h => h) (Or.inl ⟨by rfl, ?_⟩) ?_ ?_
      rotate_left
      · intro w'
        go_simp
        with_reducible rfl
      rotate_left
      · simp only [Act.put, List.setIfInBounds_toArray, List.set_cons_zero, List.set_cons_succ, i64_w, i32_w]
        rfl
      refine take_ (i := 2) (N := some 56) (v := ?_) (a' := ?_) #[true, true, true, false, false, false, false, false, false, false, false, false] rfl rfl (by kernel_rfl) (fun _ _ _ h => h) (Or.inl ⟨by rfl, ?_⟩) hHeld ?_ ?_
      rotate_left
      · rintro w' hS
        have y1 := Hn11.out w' hS.below
        go_simp
        with_reducible rfl
      rotate_left
      · simp only [Act.put, List.setIfInBounds_toArray, List.set_cons_zero, List.set_cons_succ, i64_w, i32_w]
        rfl
      refine pure_ (i := 3) (N := some 57) (v := ?_) (a' := ?_) #[true, true, true, true, false, false, false, false, false, false, false, false] rfl rfl (by kernel_rfl) (fun _ _ _ h => h) (Or.inl ⟨by rfl, ?_⟩) ?_ ?_
      rotate_left
      · intro w'
        go_simp
        with_reducible rfl
      rotate_left
      · simp only [Act.put, List.setIfInBounds_toArray, List.set_cons_zero, List.set_cons_succ, i64_w, i32_w]
        rfl
      try rw [hz64]
      refine pure_ (i := 4) (N := some 58) (v := ?_) (a' := ?_) #[true, true, true, true, true, false, false, false, false, false, false, false] rfl rfl (by kernel_rfl) (fun _ _ _ h => h) (Or.inl ⟨by rfl, ?_⟩) ?_ ?_
      rotate_left
      · intro w'
        go_simp
        with_reducible rfl
      rotate_left
      · simp only [Act.put, List.setIfInBounds_toArray, List.set_cons_zero, List.set_cons_succ, i64_w, i32_w]
        rfl
      refine pure_ (i := 5) (N := some 59) (v := ?_) (a' := ?_) #[true, true, true, true, true, true, false, false, false, false, false, false] rfl rfl (by kernel_rfl) (fun _ _ _ h => h) (Or.inl ⟨by rfl, ?_⟩) ?_ ?_
      rotate_left
      · intro w'
        go_simp
        with_reducible rfl
      rotate_left
      · simp only [Act.put, List.setIfInBounds_toArray, List.set_cons_zero, List.set_cons_succ, i64_w, i32_w]
        rfl
      refine take_ (i := 6) (N := some 60) (v := ?_) (a' := ?_) #[true, true, true, true, true, true, true, false, false, false, false, false] rfl rfl (by kernel_rfl) (fun _ _ _ h => h) (Or.inl ⟨by rfl, ?_⟩) hHeld ?_ ?_
      rotate_left
      · rintro w' hS
        have y1 := Hn12.out w' hS.below
        go_simp
        with_reducible rfl
      rotate_left
      · simp only [Act.put, List.setIfInBounds_toArray, List.set_cons_zero, List.set_cons_succ, i64_w, i32_w]
        rfl
      refine pure_ (i := 7) (N := some 61) (v := ?_) (a' := ?_) #[true, true, true, true, true, true, true, true, false, false, false, false] rfl rfl (by kernel_rfl) (fun _ _ _ h => h) (Or.inl ⟨by rfl, ?_⟩) ?_ ?_
      rotate_left
      · intro w'
        go_simp
        with_reducible rfl
      rotate_left
      · simp only [Act.put, List.setIfInBounds_toArray, List.set_cons_zero, List.set_cons_succ, i64_w, i32_w]
        rfl
      try rw [hz64]
      refine pure_ (i := 8) (N := some 62) (v := ?_) (a' := ?_) #[true, true, true, true, true, true, true, true, true, false, false, false] rfl rfl (by kernel_rfl) (fun _ _ _ h => h) (Or.inl ⟨by rfl, ?_⟩) ?_ ?_
      rotate_left
      · intro w'
        go_simp
        with_reducible rfl
      rotate_left
      · simp only [Act.put, List.setIfInBounds_toArray, List.set_cons_zero, List.set_cons_succ, i64_w, i32_w]
        rfl
      refine one_ (i := 9) (N := none) #[true, true, true, true, true, true, true, true, true, true, false, false] rfl rfl (by kernel_rfl) (by decide) (fun K hK => ?_)
      have c1 := blk_cell hHeld.at_ 12
      have f1 := blk_frozen hHeld.at_ 12
      rw [if_pos (by rfl)]
      unfold Oper.wp
      go_simp
      refine hK.out _ _ (hHeld.put (Nat.le_refl _) 12 (.int .i64 0) rfl) (fun hHeld => ?_)
      clear hK K
      refine pure_ (i := 10) (N := some 63) (v := ?_) (a' := ?_) #[true, true, true, true, true, true, true, true, true, true, true, false] rfl rfl (by kernel_rfl) (fun _ _ _ h => h) (Or.inl ⟨by rfl, ?_⟩) ?_ ?_
      rotate_left
      · intro w'
        go_simp
        with_reducible rfl
      rotate_left
      · simp only [Act.put, List.setIfInBounds_toArray, List.set_cons_zero, List.set_cons_succ, i64_w, i32_w]
        rfl
      refine one_ (i := 11) (N := none) #[true, true, true, true, true, true, true, true, true, true, true, true] rfl rfl (by kernel_rfl) (by decide) (fun K hK => ?_)
      have c1 := blk_cell hHeld.at_ 13
      have f1 := blk_frozen hHeld.at_ 13
      rw [if_pos (by rfl)]
      unfold Oper.wp
      go_simp
      refine hK.out _ _ (hHeld.put (Nat.le_refl _) 13 (.int .i64 0) rfl) (fun hHeld => ?_)
      clear hK K
      refine done_ (by kernel_rfl) ?_
      go_wp2_with fail
      obtain ⟨w9, hw9⟩ : ∃ w9, ((wr.setCell ⟨w2.heap.size, 12, none⟩ (.int .i64 0)).setCell ⟨w2.heap.size, 13, none⟩ (.int .i64 0)).drew = w9 := ⟨_, rfl⟩
      have hI9 : InoS w2 w2.heap.size #[Value.int IntKind.u8 0, Value.int IntKind.u8 0, Value.int IntKind.i64 0, Value.int IntKind.i64 0, Value.int IntKind.i64 0, Value.int IntKind.i64 0, Value.int IntKind.i64 0, Value.int IntKind.i64 0, Value.int IntKind.i64 0, Value.int IntKind.i64 0, Value.int IntKind.i64 0, Value.int IntKind.i64 0, Value.int IntKind.i64 0, Value.int IntKind.i64 0] w9 := by rw [← hw9]; exact hHeld
      rw [hw9]
      clear hw9 hHeld c1 f1 hb hB HI Hn11 Hn12 hz64 hq
      have hC9 : Kd.C (Kd.int .u64) w9 (some ⟨g8, 13, none⟩) 3 [0, 0, 0] := by
        refine C_cells (xs := [0, 0, 0]) (fun i hi => ?_) (by simp)
        have hi3 : i < 3 := by simpa using hi
        rw [Addr.add_mid, (Hn.out (13 + i) (by omega) (by omega)).out w9 hI9.below]
        rcases (show i = 0 ∨ i = 1 ∨ i = 2 by omega) with rfl | rfl | rfl <;> rfl
      refine (containsfunc0 ⟨g8, 13, none⟩ _ w9 hC9).mono ?_
      rintro e w10 ⟨rfl, hB10⟩
      have hb10 := blk_below hI9.at_ hB10
      have hBa := below_step hI9.below hB10
      have x0 : w10.cell? ⟨w2.heap.size, 0, none⟩ = some (.int .u8 0) := blk_cell hb10 0
      have x1 : w10.cell? ⟨w2.heap.size, 1, none⟩ = some (.int .u8 0) := blk_cell hb10 1
      have x2 : w10.cell? ⟨w2.heap.size, 2, none⟩ = some (.int .i64 0) := blk_cell hb10 2
      have x3 : w10.cell? ⟨w2.heap.size, 3, none⟩ = some (.int .i64 0) := blk_cell hb10 3
      have x4 : w10.cell? ⟨w2.heap.size, 4, none⟩ = some (.int .i64 0) := blk_cell hb10 4
      have x5 : w10.cell? ⟨w2.heap.size, 5, none⟩ = some (.int .i64 0) := blk_cell hb10 5
      have x6 : w10.cell? ⟨w2.heap.size, 6, none⟩ = some (.int .i64 0) := blk_cell hb10 6
      have x7 : w10.cell? ⟨w2.heap.size, 7, none⟩ = some (.int .i64 0) := blk_cell hb10 7
      have x8 : w10.cell? ⟨w2.heap.size, 8, none⟩ = some (.int .i64 0) := blk_cell hb10 8
      have x9 : w10.cell? ⟨w2.heap.size, 9, none⟩ = some (.int .i64 0) := blk_cell hb10 9
      have x10 : w10.cell? ⟨w2.heap.size, 10, none⟩ = some (.int .i64 0) := blk_cell hb10 10
      have x11 : w10.cell? ⟨w2.heap.size, 11, none⟩ = some (.int .i64 0) := blk_cell hb10 11
      have x12 : w10.cell? ⟨w2.heap.size, 12, none⟩ = some (.int .i64 0) := blk_cell hb10 12
      have x13 : w10.cell? ⟨w2.heap.size, 13, none⟩ = some (.int .i64 0) := blk_cell hb10 13
      have Hb10 := Lib.hid hb10
      have HBa := Lib.hid hBa
      clear hb10 hBa hI9 hB10 hC9
      go_wp2_with fail
      clear x0 x1 x2 x3 x4 x5 x6 x7 x8 x9 x10 x11 x12 x13
      refine (inoright0 w10).mono ?_
      rintro e w11 ⟨rfl, hB11⟩
      have hb11 := blk_below Hb10.out hB11
      have hBb := below_step HBa.out hB11
      have hz11 := blk_below Hb2.out hBb
      have hload := Lib.hid (run_loadAt_mid (P := Try.prog) w11 w2.heap.size 0 83 (inoC (0, 0)) _ (fun j v hj => by rw [Nat.zero_add, blk_cell hb11]; simpa [inoC] using hj) Try.underlying83 rfl (by rw [sz_ino]; rfl))
      have hstore := Lib.hid (store_row (W := w11) (ty := 83) (cells := (inoC (0, 0)).toArray) hz11 (by rw [sz_ino]; rfl) rfl (by simp [inoC, Value.oneCell']))
      have Hz11 := Lib.hid hz11
      have HBb := Lib.hid (below_step HB2.out hBb)
      clear hb11 hBb hz11 hB11
      go_wp2_with (first | ((with_reducible refine gate_load 83 (.tmp 6) rfl ?_); refine wpList_load_eq rfl _ _ rfl _ _ rfl hload.out ?_) | ((with_reducible refine gate_store 83 (.tmp 2) (.tmp 73) rfl ?_); refine wpList_store_eq rfl _ _ _ rfl _ _ rfl rfl hstore.out ?_))
      refine bodyPost_ret (results_cell_tmp rfl _ _ w.heap.size 83 (inoC (0, 0)).toArray (0, 0) _ rfl ?_ Try.underlying83 rfl (by rw [sz_ino]; rfl)) rfl ?_
      · exact setRow_heap w11 _ _ _ _ _ Hz11.out
      · exact ⟨rfl, below_setRow HBb.out (Nat.le_refl _) _⟩
    | succ q =>
      have d1 : decide ((k : Int) < 8) = true := decide_eq_true (by omega)
      have q0 : 0 ≤ (k : Int) := by omega
      have q1 : (k : Int) < 8 := by omega
      have q2 : (k : Int) < 13 := by omega
      have hc0 : wr.cell? ⟨g8, 3 + k, none⟩ = some (.int .u64 0) := by
        have h := (Hnn.out (3 + k) (by rw [inoT_len]; omega)).out wr hB.out
        rw [h]
        rcases (show k = 0 ∨ k = 1 ∨ k = 2 ∨ k = 3 ∨ k = 4 ∨ k = 5 ∨ k = 6 ∨ k = 7 by omega) with rfl | rfl | rfl | rfl | rfl | rfl | rfl | rfl <;> rfl
      have hc1 : wr.cell? ⟨w2.heap.size, 4 + k, none⟩ = some (.int .i64 0) := by
        rw [blk_cell hb.out]
        rcases (show k = 0 ∨ k = 1 ∨ k = 2 ∨ k = 3 ∨ k = 4 ∨ k = 5 ∨ k = 6 ∨ k = 7 by omega) with rfl | rfl | rfl | rfl | rfl | rfl | rfl | rfl <;> rfl
      have hf1 : wr.frozen? ⟨w2.heap.size, 4 + k, none⟩ = false := blk_frozen hb.out (4 + k)
      have hb' := blk_put hb.out (4 + k) (.int .i64 0) (cs' := #[Value.int IntKind.u8 0, Value.int IntKind.u8 0, Value.int IntKind.i64 0, Value.int IntKind.i64 0, Value.int IntKind.i64 0, Value.int IntKind.i64 0, Value.int IntKind.i64 0, Value.int IntKind.i64 0, Value.int IntKind.i64 0, Value.int IntKind.i64 0, Value.int IntKind.i64 0, Value.int IntKind.i64 0, Value.int IntKind.i64 0, Value.int IntKind.i64 0]) (by
        rcases (show k = 0 ∨ k = 1 ∨ k = 2 ∨ k = 3 ∨ k = 4 ∨ k = 5 ∨ k = 6 ∨ k = 7 by omega) with rfl | rfl | rfl | rfl | rfl | rfl | rfl | rfl <;> rfl)
      have Hb' := Lib.hid hb'
      have HB' := Lib.hid (hB.out.setCell (p := ⟨w2.heap.size, 4 + k, none⟩) (Nat.le_refl _) (.int .i64 0))
      clear hb'
      go_wp2_with fail
      go_roundg q
      case measure => omega
      case rel => exact ⟨k + 1, by omega, by go_num, Hb', HB'⟩
theorem inotake_any (x : Int × Int) (hx : InoOk x) (ad : Addr) (c0 : Nat) (w : World) (h : Kd.C (Kd.int .u8) w (some ad) 32 (inoB x)) (hc : 32 ≤ c0) : Calls Try.prog 54 #[.slice (some ad) 32 c0] w fun e w' => e = .returned (.tuple #[.agg (inoC x).toArray, .int .i64 0]) ∧ Below w.heap.size w w' := by
  obtain ⟨k, s⟩ := x
  rcases hx with ⟨h1, h2⟩ | ⟨h1, h2, h3⟩
  · simp only at h1 h2
    subst h1; subst h2
    exact inotake0 ad c0 w h hc
  · simp only at h1 h2 h3
    subst h1
    exact inotake1 s h2 h3 ad c0 w h hc
end Go.Proofs.Ytpbijdalfeaheaa.Tf

/- bits.Count, of the bits that lead nowhere. -/
namespace Go.Proofs.Ytpbijdalfeaheaa.Tf
open Go.RowKit Go.Proofs.YtpbijdalfeaheaaW.PrintWords Go.Proofs.YtpbijdalfeaheaaW.PrintLast Go.Proofs.YtpbijdalfeaheaaW.PrintMore
set_option linter.unusedVariables false
set_option linter.unusedSimpArgs false
/-- The used blocks' bits: only the first six bytes' may be set. -/
structure UsedOk (l : List Int) : Prop where
  len : l.length = 64
  byte : ∀ x ∈ l, 0 ≤ x ∧ x < 256
  zero : ∀ j, 6 ≤ j → j < 64 → l.getD j 0 = 0
theorem has0 {l : List Int} (h : UsedOk l) (i : Int) (h0 : 48 ≤ i) (h1 : i < 512) : P.bits_Has.f l i = some false := by
  have e1 : Int.tdiv i 8 = i / 8 := Int.tdiv_eq_ediv_of_nonneg (by omega)
  have e2 : Int.tmod i 8 = i % 8 := Int.tmod_eq_emod_of_nonneg (by omega)
  have e3 : wrap64 (i / 8) = i / 8 := by unfold wrap64; omega
  have e4 : wrap64 (8 * ((64 : Nat) : Int)) = 512 := by unfold wrap64; omega
  have hz : rd l (i / 8) = 0 := by
    have := h.zero (i / 8).toNat (by omega) (by omega)
    unfold rd
    exact this
  unfold P.bits_Has.f
  rw [h.len, e1, e2, e3, e4, hz, if_pos (by omega), if_pos (by omega), if_pos (by omega), if_pos (by omega), if_pos (by omega)]
  have hs : shr .u8 0 (i % 8) = 0 := by
    rcases (show i % 8 = 0 ∨ i % 8 = 1 ∨ i % 8 = 2 ∨ i % 8 = 3 ∨ i % 8 = 4 ∨ i % 8 = 5 ∨ i % 8 = 6 ∨ i % 8 = 7 by omega) with e | e | e | e | e | e | e | e <;> rw [e] <;> rfl
  rw [hs]
  rfl
theorem count0l {l : List Int} (h : UsedOk l) : ∀ (k : Nat) (i : Int), 48 ≤ i → i ≤ 512 → 512 - i < (k : Int) → P.bits_Count.l0 k l 0 512 i = some 0 := by
  intro k
  induction k with
  | zero => intro i _ _ h3; omega
  | succ k ih =>
    intro i h1 h2 h3
    unfold P.bits_Count.l0
    by_cases hi : i < 512
    · rw [if_pos hi, has0 h i h1 hi]
      have e : wrap64 (i + 1) = i + 1 := by unfold wrap64; omega
      rw [e]
      exact ih (i + 1) (by omega) (by omega) (by omega)
    · rw [if_neg hi]
theorem count0 {l : List Int} (h : UsedOk l) (A0 : Option Addr) (c0 : Nat) (w : World) (hr : Kd.C (Kd.int .u8) w A0 64 l) (hc : 64 ≤ c0) :
    Calls Try.prog 49 #[.slice A0 64 c0, .int .i64 48, .int .i64 512] w fun e w' => e = .returned (.int .i64 0) ∧ Below w.heap.size w w' := by
  obtain ⟨k, hk⟩ : ∃ k : Nat, 1000 ≤ k := ⟨1000, Nat.le_refl _⟩
  have hf : P.bits_Count.f k l 48 512 = some 0 := by
    have e4 : wrap64 (8 * ((64 : Nat) : Int)) = 512 := by unfold wrap64; omega
    have hw : P.bits_within.f l 48 512 = some (48, 512) := by
      unfold P.bits_within.f
      rw [h.len, e4]
      simp [mx, mn]
    unfold P.bits_Count.f
    rw [hw]
    simp only [Option.bind_some]
    exact count0l h k 48 (by omega) (by omega) (by omega)
  have hh := P.bits_Count.calls k A0 c0 l 48 512 0 w (by rw [h.len]; exact hr) (by rw [h.len]; exact hc) hf
  rw [h.len] at hh
  exact hh
end Go.Proofs.Ytpbijdalfeaheaa.Tf

/- meta.Right. -/
namespace Go.Proofs.Ytpbijdalfeaheaa.Tf
open Go.RowKit Go.Proofs.YtpbijdalfeaheaaW.PrintWords Go.Proofs.YtpbijdalfeaheaaW.PrintLast Go.Proofs.YtpbijdalfeaheaaW.PrintMore
set_option linter.unusedVariables false
set_option linter.unusedSimpArgs false
/-- What is known, as this theorem's is: its rows are not needed. -/
structure Mt where
  own : List Int
  used : List Int
  ino : List (Int × Int)
structure MtOk (M : Mt) : Prop where
  olen : M.own.length = 6
  own : ∀ o ∈ M.own, 0 ≤ o ∧ o ≤ 16
  used : UsedOk M.used
  ilen : M.ino.length = 12
  ino : ∀ x ∈ M.ino, InoOk x
/-- Its four slices. -/
def metaC (A0 : Addr) (c0 : Nat) (A1 : Addr) (c1 : Nat) (A2 : Addr) (c2 : Nat) (A3 : Addr) (c3 : Nat) : Array Value := #[.slice (some A0) 16 c0, .slice (some A1) 6 c1, .slice (some A2) 64 c2, .slice (some A3) 12 c3]
structure MetaF (W : World) (ok : Nat → Prop) (A0 : Addr) (c0 : Nat) (A1 : Addr) (c1 : Nat) (A2 : Addr) (c2 : Nat) (A3 : Addr) (c3 : Nat) (M : Mt) : Prop where
  cap : 16 ≤ c0 ∧ 6 ≤ c1 ∧ 64 ≤ c2 ∧ 12 ≤ c3
  rows : Kd.F RK W ok (some A0) 16 rows0
  own : Kd.F (Kd.int .i64) W ok (some A1) 6 M.own
  used : Kd.F (Kd.int .u8) W ok (some A2) 64 M.used
  ino : Kd.F IK W ok (some A3) 12 M.ino
theorem MetaF.below {W W1 : World} {ok : Nat → Prop} {A0 A1 A2 A3 : Addr} {c0 c1 c2 c3 : Nat} {M : Mt} (h : MetaF W ok A0 c0 A1 c1 A2 c2 A3 c3 M) (hb : Below W.heap.size W W1) : MetaF W1 (fun k => ok k ∧ k < W.heap.size) A0 c0 A1 c1 A2 c2 A3 c3 M :=
  ⟨h.cap, Kd.F_below (Kd.F_bound h.rows) hb, Kd.F_below (Kd.F_bound h.own) hb, Kd.F_below (Kd.F_bound h.used) hb, Kd.F_below (Kd.F_bound h.ino) hb⟩
theorem MetaF.mono {W : World} {ok ok' : Nat → Prop} {A0 A1 A2 A3 : Addr} {c0 c1 c2 c3 : Nat} {M : Mt} (h : MetaF W ok A0 c0 A1 c1 A2 c2 A3 c3 M) (hm : ∀ k, ok k → ok' k) : MetaF W ok' A0 c0 A1 c1 A2 c2 A3 c3 M :=
  ⟨h.cap, Kd.F_mono h.rows hm, Kd.F_mono h.own hm, Kd.F_mono h.used hm, Kd.F_mono h.ino hm⟩
/-- The geometry and what is known, in memory at a function's entry. -/
structure Boxed (w : World) (cells : Array Value) (W : World) : Prop where
  geo : W.heap[w.heap.size]? = some (.cells #[.int .i64 30, .int .i64 12, .int .i64 6, .int .i64 8] 25 (0, 0))
  met : W.heap[w.heap.size + 1]? = some (.cells cells 36 (0, 0))
  below : Below w.heap.size w W
theorem Boxed.make (w : World) (cells : Array Value) : Boxed w cells ((w.alloc (Obj.cells #[.int .i64 30, .int .i64 12, .int .i64 6, .int .i64 8] 25)).alloc (Obj.cells cells 36)) := by
  refine ⟨blk_alloc (blk_new _ _) _, ?_, below_alloc (below_alloc (Below.refl _ _) _) _⟩
  have := blk_new (w.alloc (Obj.cells #[.int .i64 30, .int .i64 12, .int .i64 6, .int .i64 8] 25)) (Obj.cells cells 36)
  simpa using this
theorem Boxed.step {w W W1 : World} {cells : Array Value} (h : Boxed w cells W) (hb : Below W.heap.size W W1) : Boxed w cells W1 := ⟨blk_below h.geo hb, blk_below h.met hb, below_step h.below hb⟩
set_option maxHeartbeats 8000000 in
set_option maxRecDepth 100000 in
theorem metaright_any (ok : Nat → Prop) (A0 : Addr) (c0 : Nat) (A1 : Addr) (c1 : Nat) (A2 : Addr) (c2 : Nat) (A3 : Addr) (c3 : Nat) (M : Mt) (w : World) (h : MetaF w ok A0 c0 A1 c1 A2 c2 A3 c3 M) (hM : MtOk M) :
    Calls Try.prog 24 #[.agg geoC, .agg (metaC A0 c0 A1 c1 A2 c2 A3 c3)] w fun e w' => e = .returned (.bool true) ∧ Below w.heap.size w w' := by
  have HF := Lib.hid h
  have HM := Lib.hid hM
  clear h hM
  unfold geoC metaC
  go_enter Try.func24, Try.ntmps24
  go_wp2_with fail
  obtain ⟨w1, hw1⟩ : ∃ w1, (w.alloc (Obj.cells #[.int .i64 30, .int .i64 12, .int .i64 6, .int .i64 8] 25)).alloc (Obj.cells #[.slice (some A0) 16 c0, .slice (some A1) 6 c1, .slice (some A2) 64 c2, .slice (some A3) 12 c3] 36) = w1 := ⟨_, rfl⟩
  have hX1 : Boxed w #[.slice (some A0) 16 c0, .slice (some A1) 6 c1, .slice (some A2) 64 c2, .slice (some A3) 12 c3] w1 := by rw [← hw1]; exact Boxed.make w _
  rw [hw1]
  clear hw1
  refine (right_geo w1).mono ?_
  rintro e w2 ⟨rfl, hB2⟩
  have hX2 := hX1.step hB2
  have g0 : w2.cell? ⟨w.heap.size, 0, none⟩ = some (.int .i64 30) := blk_cell hX2.geo 0
  have g1 : w2.cell? ⟨w.heap.size, 1, none⟩ = some (.int .i64 12) := blk_cell hX2.geo 1
  have g2 : w2.cell? ⟨w.heap.size, 2, none⟩ = some (.int .i64 6) := blk_cell hX2.geo 2
  have g3 : w2.cell? ⟨w.heap.size, 3, none⟩ = some (.int .i64 8) := blk_cell hX2.geo 3
  have m0 : w2.cell? ⟨w.heap.size + 1, 0, none⟩ = some (.slice (some A0) 16 c0) := blk_cell hX2.met 0
  have m1 : w2.cell? ⟨w.heap.size + 1, 1, none⟩ = some (.slice (some A1) 6 c1) := blk_cell hX2.met 1
  have m2 : w2.cell? ⟨w.heap.size + 1, 2, none⟩ = some (.slice (some A2) 64 c2) := blk_cell hX2.met 2
  have m3 : w2.cell? ⟨w.heap.size + 1, 3, none⟩ = some (.slice (some A3) 12 c3) := blk_cell hX2.met 3
  have HX2 := Lib.hid hX2
  clear hX1 hX2 hB2
  go_wp2_with fail
  clear g0 g1 g2 g3 m0 m1 m2 m3
  refine (internright0 A0 c0 w2 (Kd.F_now (HF.out.below HX2.out.below).rows)).mono ?_
  rintro e w3 ⟨rfl, hB3⟩
  have hX3 := HX2.out.step hB3
  have g0 : w3.cell? ⟨w.heap.size, 0, none⟩ = some (.int .i64 30) := blk_cell hX3.geo 0
  have g1 : w3.cell? ⟨w.heap.size, 1, none⟩ = some (.int .i64 12) := blk_cell hX3.geo 1
  have g2 : w3.cell? ⟨w.heap.size, 2, none⟩ = some (.int .i64 6) := blk_cell hX3.geo 2
  have g3 : w3.cell? ⟨w.heap.size, 3, none⟩ = some (.int .i64 8) := blk_cell hX3.geo 3
  have m0 : w3.cell? ⟨w.heap.size + 1, 0, none⟩ = some (.slice (some A0) 16 c0) := blk_cell hX3.met 0
  have m1 : w3.cell? ⟨w.heap.size + 1, 1, none⟩ = some (.slice (some A1) 6 c1) := blk_cell hX3.met 1
  have m2 : w3.cell? ⟨w.heap.size + 1, 2, none⟩ = some (.slice (some A2) 64 c2) := blk_cell hX3.met 2
  have m3 : w3.cell? ⟨w.heap.size + 1, 3, none⟩ = some (.slice (some A3) 12 c3) := blk_cell hX3.met 3
  have HX3 := Lib.hid hX3
  clear hX3 hB3
  go_wp2_with fail
  clear g0 g1 g2 g3 m0 m1 m2 m3
  go_loopg [6, 43] 6 (fun q _ i wr => ∃ k, k + q = 6 ∧ i = .int .i64 (k : Int) ∧ wr = w3)
  case atStart => exact ⟨0, rfl, rfl, rfl⟩
  case round =>
    obtain ⟨k, hq, rfl, rfl⟩ := hrel
    cases gk with
    | zero =>
      obtain rfl : k = 6 := by omega
      have g0 : wr.cell? ⟨w.heap.size, 0, none⟩ = some (.int .i64 30) := blk_cell HX3.out.geo 0
      have g1 : wr.cell? ⟨w.heap.size, 1, none⟩ = some (.int .i64 12) := blk_cell HX3.out.geo 1
      have g2 : wr.cell? ⟨w.heap.size, 2, none⟩ = some (.int .i64 6) := blk_cell HX3.out.geo 2
      have g3 : wr.cell? ⟨w.heap.size, 3, none⟩ = some (.int .i64 8) := blk_cell HX3.out.geo 3
      have m0 : wr.cell? ⟨w.heap.size + 1, 0, none⟩ = some (.slice (some A0) 16 c0) := blk_cell HX3.out.met 0
      have m1 : wr.cell? ⟨w.heap.size + 1, 1, none⟩ = some (.slice (some A1) 6 c1) := blk_cell HX3.out.met 1
      have m2 : wr.cell? ⟨w.heap.size + 1, 2, none⟩ = some (.slice (some A2) 64 c2) := blk_cell HX3.out.met 2
      have m3 : wr.cell? ⟨w.heap.size + 1, 3, none⟩ = some (.slice (some A3) 12 c3) := blk_cell HX3.out.met 3
      go_wp2_with fail
      clear g0 g1 g2 g3 m0 m1 m2 m3
      obtain ⟨w0, hw0⟩ : ∃ w0 : World, w0 = wr := ⟨_, rfl⟩
      subst hw0
      go_loopg [8, 57] 12 (fun q _ i wr => ∃ k, k + q = 12 ∧ i = .int .i64 (k : Int) ∧ Hid (Boxed w #[.slice (some A0) 16 c0, .slice (some A1) 6 c1, .slice (some A2) 64 c2, .slice (some A3) 12 c3] wr))
      case atStart => exact ⟨0, rfl, rfl, HX3⟩
      case round =>
        clear HX3
        obtain ⟨k, hq, rfl, HX3⟩ := hrel
        cases gk with
        | zero =>
          obtain rfl : k = 12 := by omega
          have g0 : wr.cell? ⟨w.heap.size, 0, none⟩ = some (.int .i64 30) := blk_cell HX3.out.geo 0
          have g1 : wr.cell? ⟨w.heap.size, 1, none⟩ = some (.int .i64 12) := blk_cell HX3.out.geo 1
          have g2 : wr.cell? ⟨w.heap.size, 2, none⟩ = some (.int .i64 6) := blk_cell HX3.out.geo 2
          have g3 : wr.cell? ⟨w.heap.size, 3, none⟩ = some (.int .i64 8) := blk_cell HX3.out.geo 3
          have m0 : wr.cell? ⟨w.heap.size + 1, 0, none⟩ = some (.slice (some A0) 16 c0) := blk_cell HX3.out.met 0
          have m1 : wr.cell? ⟨w.heap.size + 1, 1, none⟩ = some (.slice (some A1) 6 c1) := blk_cell HX3.out.met 1
          have m2 : wr.cell? ⟨w.heap.size + 1, 2, none⟩ = some (.slice (some A2) 64 c2) := blk_cell HX3.out.met 2
          have m3 : wr.cell? ⟨w.heap.size + 1, 3, none⟩ = some (.slice (some A3) 12 c3) := blk_cell HX3.out.met 3
          go_wp2_with fail
          clear g0 g1 g2 g3 m0 m1 m2 m3
          refine (count0 HM.out.used (some A2) c2 wr (Kd.F_now (HF.out.below HX3.out.below).used) HF.out.cap.2.2.1).mono ?_
          rintro e w9 ⟨rfl, hB9⟩
          have HX9 := Lib.hid (HX3.out.step hB9)
          clear hB9
          go_wp2_with fail
          go_ret
          exact ⟨rfl, HX9.out.below⟩
        | succ q =>
          have d1 : decide ((k : Int) < 12) = true := decide_eq_true (by omega)
          have q0 : 0 ≤ (k : Int) := by omega
          have q1 : (k : Int) < 12 := by omega
          have hkl : k < M.ino.length := by rw [HM.out.ilen]; omega
          have hFi := HF.out.below HX3.out.below
          have hat := flat_at (Kd.F_now hFi.ino) k hkl
          obtain ⟨x, hx⟩ : ∃ x, M.ino[k] = x := ⟨_, rfl⟩
          have hok : InoOk x := HM.out.ino x (by rw [← hx]; exact List.getElem_mem hkl)
          rw [hx] at hat
          have hload := Lib.hid (load_any wr (A3.add (k * 14)) 83 (inoC x) _ hat Try.underlying83 rfl (by rw [sz_ino]; rfl))
          have Hok := Lib.hid hok
          clear hat hx hok hkl hFi
          have hca : (inoC x).toArray = #[.int .u8 x.1, .int .u8 0, .int .i64 0, .int .i64 x.2, .int .i64 0, .int .i64 0, .int .i64 0, .int .i64 0, .int .i64 0, .int .i64 0, .int .i64 0, .int .i64 0, .int .i64 0, .int .i64 0] := rfl
          rw [hca] at hload
          clear hca
          go_wp2_with (first | ((with_reducible refine gate_load 83 (.tmp 59) rfl ?_); refine wpList_load_eq rfl _ _ rfl _ _ rfl hload.out ?_))
          clear hload
          obtain ⟨w8, hw8⟩ : ∃ w8, wr.alloc (Obj.cells #[.int .u8 x.1, .int .u8 0, .int .i64 0, .int .i64 x.2, .int .i64 0, .int .i64 0, .int .i64 0, .int .i64 0, .int .i64 0, .int .i64 0, .int .i64 0, .int .i64 0, .int .i64 0, .int .i64 0] 83) = w8 := ⟨_, rfl⟩
          have hX8 := HX3.out.step (show Below wr.heap.size wr w8 by rw [← hw8]; exact below_alloc (Below.refl _ _) _)
          rw [hw8]
          clear hw8
          refine (inoright_any x w8 Hok.out).mono ?_
          rintro e w9 ⟨rfl, hB9⟩
          have HX9 := Lib.hid (hX8.step hB9)
          clear hX8 hB9
          go_wp2_with fail
          go_roundg q
          case measure => omega
          case rel => exact ⟨k + 1, by omega, by go_num, HX9⟩
    | succ q =>
      have d1 : decide ((k : Int) < 6) = true := decide_eq_true (by omega)
      have q0 : 0 ≤ (k : Int) := by omega
      have q1 : (k : Int) < 6 := by omega
      have hkl : k < M.own.length := by rw [HM.out.olen]; omega
      obtain ⟨ad', e, hc0⟩ := at_int (Kd.F_now (HF.out.below HX3.out.below).own) k hkl
      injection e with e
      subst e
      obtain ⟨x, hx⟩ : ∃ x, M.own[k] = x := ⟨_, rfl⟩
      have hok := HM.out.own x (by rw [← hx]; exact List.getElem_mem hkl)
      rw [hx] at hc0
      have d2 : decide (x < 0) = false := decide_eq_false (by omega)
      have d3 : decide (x > 16) = false := decide_eq_false (by omega)
      clear hx hkl hok
      go_wp2_with fail
      go_roundg q
      case measure => omega
      case rel => exact ⟨k + 1, by omega, by go_num, rfl⟩
end Go.Proofs.Ytpbijdalfeaheaa.Tf
