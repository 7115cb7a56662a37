/- spin.Turn, Push, Bits: what each call gives, as whole numbers. No conditions on the whirls. -/
import Derived.Test.YthdaphnaehdnfaaSpB
import Derived.Test.YthdaphnaehdnfaaWMore
namespace Go.Proofs.Ythdaphnaehdnfaa.Sp
open Go.RowKit Go.Proofs.Ythdaphnaehdnfaa.Fl Go.Proofs.YthdaphnaehdnfaaW.PrintWords Go.Proofs.YthdaphnaehdnfaaW.PrintLast Go.Proofs.YthdaphnaehdnfaaW.PrintMore
set_option linter.unusedVariables false
set_option linter.unusedSimpArgs false

theorem bcell {W w1 : World} (hb : Below W.heap.size W w1) : (∀ b o, b < W.heap.size → w1.cell? ⟨b, o, none⟩ = W.cell? ⟨b, o, none⟩) ∧ (∀ b o, b < W.heap.size → w1.frozen? ⟨b, o, none⟩ = W.frozen? ⟨b, o, none⟩) :=
  ⟨fun b o h => hb.cell (p := ⟨b, o, none⟩) h, fun b o h => hb.frozen (p := ⟨b, o, none⟩) h⟩

theorem mul_bound {x y : Int} (hx : 0 ≤ x ∧ x < 257) (hy : 0 ≤ y ∧ y < 257) : 0 ≤ x * y ∧ x * y ≤ 65536 :=
  ⟨Int.mul_nonneg hx.1 hy.1, Int.mul_le_mul (by omega : x ≤ 256) (by omega : y ≤ 256) hy.1 (by decide)⟩

theorem cmul_fl {a b c d : Int} (ha : 0 ≤ a ∧ a < 257) (hb : 0 ≤ b ∧ b < 257) (hc : 0 ≤ c ∧ c < 257) (hd : 0 ≤ d ∧ d < 257) :
    cMulBits (fl a) (fl b) (fl c) (fl d) = some (fl (a * c - b * d), fl (a * d + b * c)) := by
  have h1 := mul_bound ha hc
  have h2 := mul_bound hb hd
  have h3 := mul_bound ha hd
  have h4 := mul_bound hb hc
  unfold cMulBits
  rw [fl_mul (by omega) (by omega) (by omega) (.inl ⟨ha.1, hc.1⟩), Option.bind_some, fl_mul (by omega) (by omega) (by omega) (.inl ⟨hb.1, hd.1⟩), Option.bind_some, fl_sub (by omega) (by omega), Option.bind_some,
    fl_mul (by omega) (by omega) (by omega) (.inl ⟨ha.1, hd.1⟩), Option.bind_some, fl_mul (by omega) (by omega) (by omega) (.inl ⟨hb.1, hc.1⟩), Option.bind_some, fl_add (by omega) (by omega), Option.bind_some]

theorem cadd_fl {a b c d : Int} (ha : a.natAbs < 131072) (hb : b.natAbs < 131072) (hc : c.natAbs < 131072) (hd : d.natAbs < 131072) :
    cSumBits .add .f64 (fl a) (fl b) (fl c) (fl d) = some (fl (a + c), fl (b + d)) := by
  unfold cSumBits
  rw [fl_add (by omega) (by omega), Option.bind_some, fl_add (by omega) (by omega), Option.bind_some]

/-- The product's parts, as spin.Turn works them out. -/
def turnX (a b c d : Int) : Int := (a % 257) * (c % 257) - (b % 257) * (d % 257)
def turnY (a b c d : Int) : Int := (a % 257) * (d % 257) + (b % 257) * (c % 257)

theorem back_mod (x y : Int) (w : World) :
    Calls Try.prog 26 #[.complex .f64 (fl (x % 257)) (fl (y % 257))] w fun e w' => e = .returned (.agg #[.int .i64 (x % 257), .int .i64 (y % 257)]) ∧ Below w.heap.size w w' :=
  back_any _ _ (by omega) (by omega) w

/-- What two boxed whirls, and a third one's place, are, beside what the call makes. -/
def Two (w : World) (a b c d : Int) (w' : World) : Prop :=
  w'.cell? ⟨w.heap.size, 0, none⟩ = some (.int .i64 a) ∧ w'.cell? ⟨w.heap.size, 1, none⟩ = some (.int .i64 b) ∧ w'.cell? ⟨w.heap.size + 1, 0, none⟩ = some (.int .i64 c) ∧ w'.cell? ⟨w.heap.size + 1, 1, none⟩ = some (.int .i64 d) ∧
  w'.cell? ⟨w.heap.size + 1 + 1, 0, none⟩ = some (.int .i64 0) ∧ w'.cell? ⟨w.heap.size + 1 + 1, 1, none⟩ = some (.int .i64 0) ∧ w'.frozen? ⟨w.heap.size + 1 + 1, 0, none⟩ = false ∧ w'.frozen? ⟨w.heap.size + 1 + 1, 1, none⟩ = false ∧
  w.heap.size + 2 < w'.heap.size ∧ Below w.heap.size w w'
theorem Two.start (w : World) (a b c d : Int) (t : TypeId) : Two w a b c d (((w.alloc (.cells #[.int .i64 a, .int .i64 b] t)).alloc (.cells #[.int .i64 c, .int .i64 d] t)).alloc (.cells #[.int .i64 0, .int .i64 0] t)).drew := by
  refine ⟨by go_simp, by go_simp, by go_simp, by go_simp, by go_simp, by go_simp, by go_simp, by go_simp, by simp, ?_⟩
  exact below_drewN (((Below.refl _ _).alloc (Nat.le_refl _) _).alloc (by simp) _ |>.alloc (by simp; omega) _) 1
theorem Two.step {w W w' : World} {a b c d : Int} (h : Two w a b c d W) (hb : Below W.heap.size W w') : Two w a b c d w' := by
  obtain ⟨h1, h2, h3, h4, h5, h6, h7, h8, h9, h10⟩ := h
  obtain ⟨hc, hf⟩ := bcell hb
  have := hb.size
  exact ⟨(hc _ _ (by omega)).trans h1, (hc _ _ (by omega)).trans h2, (hc _ _ (by omega)).trans h3, (hc _ _ (by omega)).trans h4, (hc _ _ (by omega)).trans h5, (hc _ _ (by omega)).trans h6, (hf _ _ (by omega)).trans h7, (hf _ _ (by omega)).trans h8, by omega, h10.trans (hb.mono (by omega))⟩

set_option maxHeartbeats 1000000 in
theorem turn_any (a b c d : Int) (w : World) :
    Calls Try.prog 17 #[.agg #[.int .i64 a, .int .i64 b], .agg #[.int .i64 c, .int .i64 d]] w fun e w' => e = .returned (.agg #[.int .i64 (turnX a b c d % 257), .int .i64 (turnY a b c d % 257)]) ∧ Below w.heap.size w w' := by
  have hm := cmul_fl (a := a % 257) (b := b % 257) (c := c % 257) (d := d % 257) (by omega) (by omega) (by omega) (by omega)
  have hmul := fun t w => run_complex_mul (P := Try.prog) w t _ _ _ _ _ _ hm
  have h1 := mul_bound (x := a % 257) (y := c % 257) (by omega) (by omega)
  have h2 := mul_bound (x := b % 257) (y := d % 257) (by omega) (by omega)
  have h3 := mul_bound (x := a % 257) (y := d % 257) (by omega) (by omega)
  have h4 := mul_bound (x := b % 257) (y := c % 257) (by omega) (by omega)
  have HX : Hid ((a % 257 * (c % 257) - b % 257 * (d % 257)).natAbs < 262144) := Lib.hid (by omega)
  have HY : Hid ((a % 257 * (d % 257) + b % 257 * (c % 257)).natAbs < 262144) := Lib.hid (by omega)
  clear hm h1 h2 h3 h4
  go_enter Try.func17, Try.ntmps17
  go_wp2_with fail
  refine start_ (n := 8) (S := Two w a b c d) (ds := [7]) #[false, false, false, false, false, false, false, false] (by kernel_rfl) rfl rfl (Two.start w a b c d _) (fun hHeld => ?_)
  refine take_ (i := 0) (N := some 5) (v := ?_) (a' := ?_) #[true, false, false, false, false, false, false, false] rfl rfl (by kernel_rfl) (fun _ _ _ h => h) (Or.inl ⟨by rfl, ?_⟩) hHeld ?_ ?_
  rotate_left
  · rintro w' ⟨s0, s1, s2, s3, s4, s5, s6, s7, hsz, hB⟩
    go_simp
    with_reducible rfl
  rotate_left
  · simp only [Act.put, List.setIfInBounds_toArray, List.set_cons_zero, List.set_cons_succ, i64_w, i32_w]
    rfl
  refine take_ (i := 2) (N := some 7) (v := ?_) (a' := ?_) #[true, false, true, false, false, false, false, false] rfl rfl (by kernel_rfl) (fun _ _ _ h => h) (Or.inl ⟨by rfl, ?_⟩) hHeld ?_ ?_
  rotate_left
  · rintro w' ⟨s0, s1, s2, s3, s4, s5, s6, s7, hsz, hB⟩
    go_simp
    with_reducible rfl
  rotate_left
  · simp only [Act.put, List.setIfInBounds_toArray, List.set_cons_zero, List.set_cons_succ, i64_w, i32_w]
    rfl
  refine one_ (i := 1) (N := some 6) #[true, true, true, false, false, false, false, false] rfl rfl (by kernel_rfl) (by decide) (fun K hK => ?_)
  refine goes_ Try.func24 (by kernel_rfl) rfl #[.agg #[.int .i64 a, .int .i64 b]] (by rfl) rfl rfl (by (try simp only [List.map_toArray, List.map_cons, List.map_nil]); first | done | rfl) ?_
  with_reducible refine (of_any a b _).mono ?_
  rintro e w1 ⟨rfl, hb1⟩
  refine ⟨_, rfl, ?_⟩
  refine hK.out _ _ (hHeld.step hb1) (fun hHeld => ?_)
  clear hK K
  refine norm_ (a' := ?_) ?_ ?_
  rotate_left
  · show Act.put _ (some 6) _ = _
    simp only [Act.put, List.setIfInBounds_toArray, List.set_cons_zero, List.set_cons_succ, i64_w, i32_w]
    rfl
  refine one_ (i := 3) (N := some 8) #[true, true, true, true, false, false, false, false] rfl rfl (by kernel_rfl) (by decide) (fun K hK => ?_)
  refine goes_ Try.func24 (by kernel_rfl) rfl #[.agg #[.int .i64 c, .int .i64 d]] (by rfl) rfl rfl (by (try simp only [List.map_toArray, List.map_cons, List.map_nil]); first | done | rfl) ?_
  with_reducible refine (of_any c d _).mono ?_
  rintro e w2 ⟨rfl, hb2⟩
  refine ⟨_, rfl, ?_⟩
  refine hK.out _ _ (hHeld.step hb2) (fun hHeld => ?_)
  clear hK K
  refine norm_ (a' := ?_) ?_ ?_
  rotate_left
  · show Act.put _ (some 8) _ = _
    simp only [Act.put, List.setIfInBounds_toArray, List.set_cons_zero, List.set_cons_succ, i64_w, i32_w]
    rfl
  refine pure_ (i := 4) (N := some 9) (v := ?_) (a' := ?_) #[true, true, true, true, true, false, false, false] rfl rfl (by kernel_rfl) (fun _ _ _ h => h) (Or.inl ⟨by rfl, ?_⟩) ?_ ?_
  rotate_left
  · intro w'
    go_simp
    with_reducible rfl
  rotate_left
  · simp only [Act.put, List.setIfInBounds_toArray, List.set_cons_zero, List.set_cons_succ, i64_w, i32_w]
    rfl
  refine one_ (i := 5) (N := some 10) #[true, true, true, true, true, true, false, false] rfl rfl (by kernel_rfl) (by decide) (fun K hK => ?_)
  refine goes_ Try.func25 (by kernel_rfl) rfl #[.complex .f64 (fl (a % 257 * (c % 257) - b % 257 * (d % 257))) (fl (a % 257 * (d % 257) + b % 257 * (c % 257)))] (by rfl) rfl rfl (by (try simp only [List.map_toArray, List.map_cons, List.map_nil]); first | done | rfl) ?_
  with_reducible refine (norm_any _ _ HX.out HY.out _).mono ?_
  rintro e w3 ⟨rfl, rfl⟩
  refine ⟨_, rfl, ?_⟩
  refine hK.out _ _ (hHeld) (fun hHeld => ?_)
  clear hK K
  refine norm_ (a' := ?_) ?_ ?_
  rotate_left
  · show Act.put _ (some 10) _ = _
    simp only [Act.put, List.setIfInBounds_toArray, List.set_cons_zero, List.set_cons_succ, i64_w, i32_w]
    rfl
  refine one_ (i := 6) (N := some 11) #[true, true, true, true, true, true, true, false] rfl rfl (by kernel_rfl) (by decide) (fun K hK => ?_)
  refine goes_ Try.func26 (by kernel_rfl) rfl #[.complex .f64 (fl ((a % 257 * (c % 257) - b % 257 * (d % 257)) % 257)) (fl ((a % 257 * (d % 257) + b % 257 * (c % 257)) % 257))] (by rfl) rfl rfl (by (try simp only [List.map_toArray, List.map_cons, List.map_nil]); first | done | rfl) ?_
  with_reducible refine (back_mod _ _ _).mono ?_
  rintro e w4 ⟨rfl, hb4⟩
  refine ⟨_, rfl, ?_⟩
  refine hK.out _ _ (hHeld.step hb4) (fun hHeld => ?_)
  clear hK K
  refine norm_ (a' := ?_) ?_ ?_
  rotate_left
  · show Act.put _ (some 11) _ = _
    simp only [Act.put, List.setIfInBounds_toArray, List.set_cons_zero, List.set_cons_succ, i64_w, i32_w]
    rfl
  refine last_ (i := 7) (N := none) #[true, true, true, true, true, true, true, true] rfl rfl (by kernel_rfl) (by decide) (fun K hK => ?_)
  obtain ⟨s0, s1, s2, s3, s4, s5, s6, s7, hsz, hB⟩ := hHeld
  refine skip_ (w1 := ?_) (by rfl) rfl ?_ ?_
  rotate_left
  · go_simp
    rfl
  refine hK.out _ _ ?_
  clear hK K
  refine done_ (by kernel_rfl) ?_
  go_wp2
  refine bodyPost_ret (v := .agg #[.int .i64 (turnX a b c d % 257), .int .i64 (turnY a b c d % 257)]) (by simp [results, Try.results17, go_sem, turnX, turnY, *]) rfl ⟨rfl, ?_⟩
  exact (hB.setCell (by simp; omega) _).setCell (by simp; omega) _

set_option maxHeartbeats 1000000 in
theorem push_any (a b c d : Int) (w : World) :
    Calls Try.prog 16 #[.agg #[.int .i64 a, .int .i64 b], .agg #[.int .i64 c, .int .i64 d]] w fun e w' => e = .returned (.agg #[.int .i64 ((a % 257 + c % 257) % 257), .int .i64 ((b % 257 + d % 257) % 257)]) ∧ Below w.heap.size w w' := by
  have hm := cadd_fl (a := a % 257) (b := b % 257) (c := c % 257) (d := d % 257) (by omega) (by omega) (by omega) (by omega)
  have hadd := fun t w => run_complex_sum (P := Try.prog) w .add (.inl rfl) t .f64 _ _ _ _ _ _ hm
  have HX : Hid ((a % 257 + c % 257).natAbs < 262144) := Lib.hid (by omega)
  have HY : Hid ((b % 257 + d % 257).natAbs < 262144) := Lib.hid (by omega)
  clear hm
  go_enter Try.func16, Try.ntmps16
  go_wp2_with fail
  refine start_ (n := 8) (S := Two w a b c d) (ds := [7]) #[false, false, false, false, false, false, false, false] (by kernel_rfl) rfl rfl (Two.start w a b c d _) (fun hHeld => ?_)
  refine take_ (i := 0) (N := some 5) (v := ?_) (a' := ?_) #[true, false, false, false, false, false, false, false] rfl rfl (by kernel_rfl) (fun _ _ _ h => h) (Or.inl ⟨by rfl, ?_⟩) hHeld ?_ ?_
  rotate_left
  · rintro w' ⟨s0, s1, s2, s3, s4, s5, s6, s7, hsz, hB⟩
    go_simp
    with_reducible rfl
  rotate_left
  · simp only [Act.put, List.setIfInBounds_toArray, List.set_cons_zero, List.set_cons_succ, i64_w, i32_w]
    rfl
  refine take_ (i := 2) (N := some 7) (v := ?_) (a' := ?_) #[true, false, true, false, false, false, false, false] rfl rfl (by kernel_rfl) (fun _ _ _ h => h) (Or.inl ⟨by rfl, ?_⟩) hHeld ?_ ?_
  rotate_left
  · rintro w' ⟨s0, s1, s2, s3, s4, s5, s6, s7, hsz, hB⟩
    go_simp
    with_reducible rfl
  rotate_left
  · simp only [Act.put, List.setIfInBounds_toArray, List.set_cons_zero, List.set_cons_succ, i64_w, i32_w]
    rfl
  refine one_ (i := 1) (N := some 6) #[true, true, true, false, false, false, false, false] rfl rfl (by kernel_rfl) (by decide) (fun K hK => ?_)
  refine goes_ Try.func24 (by kernel_rfl) rfl #[.agg #[.int .i64 a, .int .i64 b]] (by rfl) rfl rfl (by (try simp only [List.map_toArray, List.map_cons, List.map_nil]); first | done | rfl) ?_
  with_reducible refine (of_any a b _).mono ?_
  rintro e w1 ⟨rfl, hb1⟩
  refine ⟨_, rfl, ?_⟩
  refine hK.out _ _ (hHeld.step hb1) (fun hHeld => ?_)
  clear hK K
  refine norm_ (a' := ?_) ?_ ?_
  rotate_left
  · show Act.put _ (some 6) _ = _
    simp only [Act.put, List.setIfInBounds_toArray, List.set_cons_zero, List.set_cons_succ, i64_w, i32_w]
    rfl
  refine one_ (i := 3) (N := some 8) #[true, true, true, true, false, false, false, false] rfl rfl (by kernel_rfl) (by decide) (fun K hK => ?_)
  refine goes_ Try.func24 (by kernel_rfl) rfl #[.agg #[.int .i64 c, .int .i64 d]] (by rfl) rfl rfl (by (try simp only [List.map_toArray, List.map_cons, List.map_nil]); first | done | rfl) ?_
  with_reducible refine (of_any c d _).mono ?_
  rintro e w2 ⟨rfl, hb2⟩
  refine ⟨_, rfl, ?_⟩
  refine hK.out _ _ (hHeld.step hb2) (fun hHeld => ?_)
  clear hK K
  refine norm_ (a' := ?_) ?_ ?_
  rotate_left
  · show Act.put _ (some 8) _ = _
    simp only [Act.put, List.setIfInBounds_toArray, List.set_cons_zero, List.set_cons_succ, i64_w, i32_w]
    rfl
  refine pure_ (i := 4) (N := some 9) (v := ?_) (a' := ?_) #[true, true, true, true, true, false, false, false] rfl rfl (by kernel_rfl) (fun _ _ _ h => h) (Or.inl ⟨by rfl, ?_⟩) ?_ ?_
  rotate_left
  · intro w'
    go_simp
    with_reducible rfl
  rotate_left
  · simp only [Act.put, List.setIfInBounds_toArray, List.set_cons_zero, List.set_cons_succ, i64_w, i32_w]
    rfl
  refine one_ (i := 5) (N := some 10) #[true, true, true, true, true, true, false, false] rfl rfl (by kernel_rfl) (by decide) (fun K hK => ?_)
  refine goes_ Try.func25 (by kernel_rfl) rfl #[.complex .f64 (fl (a % 257 + c % 257)) (fl (b % 257 + d % 257))] (by rfl) rfl rfl (by (try simp only [List.map_toArray, List.map_cons, List.map_nil]); first | done | rfl) ?_
  with_reducible refine (norm_any _ _ HX.out HY.out _).mono ?_
  rintro e w3 ⟨rfl, rfl⟩
  refine ⟨_, rfl, ?_⟩
  refine hK.out _ _ (hHeld) (fun hHeld => ?_)
  clear hK K
  refine norm_ (a' := ?_) ?_ ?_
  rotate_left
  · show Act.put _ (some 10) _ = _
    simp only [Act.put, List.setIfInBounds_toArray, List.set_cons_zero, List.set_cons_succ, i64_w, i32_w]
    rfl
  refine one_ (i := 6) (N := some 11) #[true, true, true, true, true, true, true, false] rfl rfl (by kernel_rfl) (by decide) (fun K hK => ?_)
  refine goes_ Try.func26 (by kernel_rfl) rfl #[.complex .f64 (fl ((a % 257 + c % 257) % 257)) (fl ((b % 257 + d % 257) % 257))] (by rfl) rfl rfl (by (try simp only [List.map_toArray, List.map_cons, List.map_nil]); first | done | rfl) ?_
  with_reducible refine (back_mod _ _ _).mono ?_
  rintro e w4 ⟨rfl, hb4⟩
  refine ⟨_, rfl, ?_⟩
  refine hK.out _ _ (hHeld.step hb4) (fun hHeld => ?_)
  clear hK K
  refine norm_ (a' := ?_) ?_ ?_
  rotate_left
  · show Act.put _ (some 11) _ = _
    simp only [Act.put, List.setIfInBounds_toArray, List.set_cons_zero, List.set_cons_succ, i64_w, i32_w]
    rfl
  refine last_ (i := 7) (N := none) #[true, true, true, true, true, true, true, true] rfl rfl (by kernel_rfl) (by decide) (fun K hK => ?_)
  obtain ⟨s0, s1, s2, s3, s4, s5, s6, s7, hsz, hB⟩ := hHeld
  refine skip_ (w1 := ?_) (by rfl) rfl ?_ ?_
  rotate_left
  · go_simp
    rfl
  refine hK.out _ _ ?_
  clear hK K
  refine done_ (by kernel_rfl) ?_
  go_wp2
  refine bodyPost_ret (v := .agg #[.int .i64 ((a % 257 + c % 257) % 257), .int .i64 ((b % 257 + d % 257) % 257)]) (by simp [results, Try.results16, go_sem, turnX, turnY, *]) rfl ⟨rfl, ?_⟩
  exact (hB.setCell (by simp; omega) _).setCell (by simp; omega) _

set_option maxHeartbeats 1000000 in
theorem bits_any (x y : Int) (w : World) :
    Calls Try.prog 22 #[.agg #[.int .i64 x, .int .i64 y]] w fun e w' => e = .returned (.int .u8 ((x % 257 + 16 * (y % 257)) % 256)) ∧ Below w.heap.size w w' := by
  go_enter Try.func22, Try.ntmps22
  go_wp2_with fail
  refine (of_any _ _ _).mono ?_
  rintro e w1 ⟨rfl, hb1⟩
  have hsz1 := hb1.size
  simp at hsz1
  go_wp2_with fail
  refine (back_mod _ _ _).mono ?_
  rintro e w2 ⟨rfl, hb2⟩
  go_wp2
  go_ret
  refine ⟨rfl, ?_⟩
  exact (((Below.refl _ _).alloc (Nat.le_refl _) _).trans ((hb1.mono (by simp)).trans (hb2.mono (by omega)))).alloc (by have := hb2.size; omega) _

/-- One byte more, as spin.More does it: of a whirl of whole parts. -/
def stepM (z : Int × Int) (c : UInt8) : Int × Int := ((z.1 * 3 - z.2 * 2 + ((c.toNat : Int) + 1)) % 257, (z.1 * 2 + z.2 * 3 + (c.toNat : Int) % 7) % 257)
/-- spin.More. -/
def moreL (x y : Int) (l : List UInt8) : Int × Int := l.foldl stepM (x % 257, y % 257)
theorem stepM_range (z : Int × Int) (c : UInt8) : (0 ≤ (stepM z c).1 ∧ (stepM z c).1 < 257) ∧ 0 ≤ (stepM z c).2 ∧ (stepM z c).2 < 257 := by
  unfold stepM; dsimp only; omega
theorem foldM_range (l : List UInt8) : ∀ z : Int × Int, (0 ≤ z.1 ∧ z.1 < 257) ∧ 0 ≤ z.2 ∧ z.2 < 257 → (0 ≤ (l.foldl stepM z).1 ∧ (l.foldl stepM z).1 < 257) ∧ 0 ≤ (l.foldl stepM z).2 ∧ (l.foldl stepM z).2 < 257 := by
  induction l with
  | nil => exact fun z h => h
  | cons c l ih => exact fun z _ => ih _ (stepM_range z c)
theorem moreL_range (x y : Int) (l : List UInt8) : (0 ≤ (moreL x y l).1 ∧ (moreL x y l).1 < 257) ∧ 0 ≤ (moreL x y l).2 ∧ (moreL x y l).2 < 257 :=
  foldM_range l _ (by dsimp only; omega)
theorem moreL_snoc (x y : Int) (l : List UInt8) (c : UInt8) : moreL x y (l ++ [c]) = stepM (moreL x y l) c := by
  unfold moreL; rw [List.foldl_append]; rfl
theorem take_snoc (s : ByteArray) (k : Nat) (h : k < s.size) : s.data.toList.take (k + 1) = s.data.toList.take k ++ [s[k]] := by
  rw [List.take_succ_eq_append_getElem (by simpa using h)]; rfl
theorem fl1_word : fl 1 = 4607182418800017408 := by decide
theorem fl3_word : fl 3 = 4613937818241073152 := by decide
theorem fl2_word : fl 2 = 4611686018427387904 := by decide
theorem back_of (x y : Int) (hx : 0 ≤ x ∧ x < 257) (hy : 0 ≤ y ∧ y < 257) (w : World) :
    Calls Try.prog 26 #[.complex .f64 (fl x) (fl y)] w fun e w' => e = .returned (.agg #[.int .i64 x, .int .i64 y]) ∧ Below w.heap.size w w' :=
  back_any _ _ (by omega) (by omega) w
def Z1 (x y : Int) (l : List UInt8) : Int := (moreL x y l).1
def Z2 (x y : Int) (l : List UInt8) : Int := (moreL x y l).2
theorem Z_range (x y : Int) (l : List UInt8) : (0 ≤ Z1 x y l ∧ Z1 x y l < 257) ∧ 0 ≤ Z2 x y l ∧ Z2 x y l < 257 := moreL_range x y l

set_option maxHeartbeats 1000000 in
theorem more_any (x y : Int) (s : ByteArray) (hs : s.size ≤ maxLen) (w : World) :
    Calls Try.prog 14 #[.agg #[.int .i64 x, .int .i64 y], .string s] w fun e w' => e = .returned (.agg #[.int .i64 (moreL x y s.data.toList).1, .int .i64 (moreL x y s.data.toList).2]) ∧ Below w.heap.size w w' := by
  unfold maxLen at hs
  have hfo := fun n => floatOf_fl n
  go_enter Try.func14, Try.ntmps14
  go_wp2_with fail
  refine (of_any _ _ _).mono ?_
  rintro e w1 ⟨rfl, hb1⟩
  have hsz1 := hb1.size
  simp at hsz1
  go_wp2_with fail
  go_loop [5, 12] (fun z i => ∃ k : Nat, k ≤ s.size ∧ i = .int .i64 k ∧ z = .complex .f64 (fl (Z1 x y (s.data.toList.take k))) (fl (Z2 x y (s.data.toList.take k)))) (fun _ i => s.size - (intOf i).toNat)
  case atStart => exact ⟨0, Nat.zero_le _, rfl, rfl⟩
  case round =>
    obtain ⟨k, hk, rfl, rfl⟩ := hrel
    obtain ⟨⟨hz1, hz2⟩, hz3, hz4⟩ := Z_range x y (s.data.toList.take k)
    by_cases hlt : k < s.size
    · have hsn := moreL_snoc x y (s.data.toList.take k) s[k]
      rw [← take_snoc s k hlt] at hsn
      have HS1 : Hid (Z1 x y (s.data.toList.take (k + 1)) = (Z1 x y (s.data.toList.take k) * 3 - Z2 x y (s.data.toList.take k) * 2 + ((s[k].toNat : Int) + 1)) % 257) := Lib.hid (congrArg Prod.fst hsn)
      have HS2 : Hid (Z2 x y (s.data.toList.take (k + 1)) = (Z1 x y (s.data.toList.take k) * 2 + Z2 x y (s.data.toList.take k) * 3 + (s[k].toNat : Int) % 7) % 257) := Lib.hid (congrArg Prod.snd hsn)
      clear hsn
      have hby := s[k].toNat_lt
      have f1 := cmul_fl (a := Z1 x y (s.data.toList.take k)) (b := Z2 x y (s.data.toList.take k)) (c := 3) (d := 2) ⟨hz1, hz2⟩ ⟨hz3, hz4⟩ (by decide) (by decide)
      rw [fl3_word, fl2_word] at f1
      have f2 := fl_add (a := (s[k].toNat : Int)) (b := 1) (by omega) (by decide)
      rw [fl1_word] at f2
      have f3 := cadd_fl (a := Z1 x y (s.data.toList.take k) * 3 - Z2 x y (s.data.toList.take k) * 2) (b := Z1 x y (s.data.toList.take k) * 2 + Z2 x y (s.data.toList.take k) * 3) (c := (s[k].toNat : Int) + 1) (d := (s[k].toNat : Int) % 7) (by omega) (by omega) (by omega) (by omega)
      have g1 := fun t w => run_complex_mul (P := Try.prog) w t _ _ _ _ _ _ f1
      have g2 := fun t w => run_float_arith (P := Try.prog) w .add t .f64 _ _ _ f2
      have g3 := fun t w => run_complex_sum (P := Try.prog) w .add (.inl rfl) t .f64 _ _ _ _ _ _ f3
      have HX : Hid ((Z1 x y (s.data.toList.take k) * 3 - Z2 x y (s.data.toList.take k) * 2 + ((s[k].toNat : Int) + 1)).natAbs < 262144) := Lib.hid (by omega)
      have HY : Hid ((Z1 x y (s.data.toList.take k) * 2 + Z2 x y (s.data.toList.take k) * 3 + (s[k].toNat : Int) % 7).natAbs < 262144) := Lib.hid (by omega)
      clear f1 f2 f3 hz1 hz2 hz3 hz4
      go_wp2_with (go_at_call 25; refine (norm_any _ _ HX.out HY.out _).mono ?_; rintro e w' ⟨rfl, rfl⟩)
      go_round
      case rel => exact ⟨k + 1, by omega, by go_num, by rw [HS1.out, HS2.out]⟩
      case measure => simp [intOf]; omega
    · obtain rfl : k = s.size := by omega
      have hall : s.data.toList.take s.size = s.data.toList := List.take_of_length_le (Nat.le_of_eq (by simp))
      have HA := Lib.hid hall
      clear hall
      go_wp2_with fail
      refine (back_of _ _ ⟨hz1, hz2⟩ ⟨hz3, hz4⟩ _).mono ?_
      rintro e w2 ⟨rfl, hb2⟩
      have hsz2 := hb2.size
      obtain ⟨hc2, hf2⟩ := bcell hb2
      obtain ⟨hc1, hf1⟩ := bcell hb1
      have c0 : w2.cell? ⟨w.heap.size + 1, 0, none⟩ = some (.int .i64 0) := (hc2 _ _ (by omega)).trans ((hc1 _ _ (by simp)).trans (by go_simp))
      have c1 : w2.cell? ⟨w.heap.size + 1, 1, none⟩ = some (.int .i64 0) := (hc2 _ _ (by omega)).trans ((hc1 _ _ (by simp)).trans (by go_simp))
      have d0 : w2.frozen? ⟨w.heap.size + 1, 0, none⟩ = false := (hf2 _ _ (by omega)).trans ((hf1 _ _ (by simp)).trans (by go_simp))
      have d1 : w2.frozen? ⟨w.heap.size + 1, 1, none⟩ = false := (hf2 _ _ (by omega)).trans ((hf1 _ _ (by simp)).trans (by go_simp))
      have hB : Below w.heap.size w w2 := (((Below.refl _ _).alloc (Nat.le_refl _) _).alloc (by simp) _).trans ((hb1.mono (by simp; omega)).trans (hb2.mono (by omega)))
      clear hc1 hf1 hc2 hf2
      go_wp2
      refine bodyPost_ret (v := .agg #[.int .i64 (Z1 x y (s.data.toList.take s.size)), .int .i64 (Z2 x y (s.data.toList.take s.size))]) (by simp [results, Try.results14, go_sem, *]) rfl ⟨by rw [HA.out]; rfl, ?_⟩
      exact (hB.setCell (by simp) _).setCell (by simp) _

end Go.Proofs.Ythdaphnaehdnfaa.Sp
