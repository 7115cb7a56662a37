/- Walks and plain laws on which the claim stands, several texts joined. -/
import Derived.Test.YtpbijdalfeaheaaM7

/- inode.Right, of inodes with a kind and a size. -/
namespace Go.Proofs.Ytpbijdalfeaheaa.Tf
open Go.RowKit Go.Proofs.YtpbijdalfeaheaaW.PrintWords Go.Proofs.YtpbijdalfeaheaaW.PrintLast Go.Proofs.YtpbijdalfeaheaaW.PrintMore
set_option linter.unusedVariables false
set_option linter.unusedSimpArgs false
/-- An inode that this theorem's inodes are: none, or a file. -/
def InoOk (x : Int × Int) : Prop := (x.1 = 0 ∧ x.2 = 0) ∨ (x.1 = 1 ∧ 0 ≤ x.2 ∧ x.2 < 3840)
theorem index0 (i : Int) (h0 : 0 ≤ i) (h1 : i < 8) (w : World) : (Instr.index 81 (.agg #[.int .i64 0, .int .i64 0, .int .i64 0, .int .i64 0, .int .i64 0, .int .i64 0, .int .i64 0, .int .i64 0]) (.int .i64 i)).run Try.prog w = .ok (.int .i64 0) w := by
  have hn : 0 ≤ i ∧ i < (8 : Int) := by omega
  simp [Instr.index, run_underlying Try.underlying81, asIntOf, hn]
  have hk : i.toNat = 0 ∨ i.toNat = 1 ∨ i.toNat = 2 ∨ i.toNat = 3 ∨ i.toNat = 4 ∨ i.toNat = 5 ∨ i.toNat = 6 ∨ i.toNat = 7 := by omega
  rcases hk with h | h | h | h | h | h | h | h <;> rw [h] <;> simp [part, go_sem]
theorem eq8 (w : World) : (Op.equalIn 9999 81 (.agg #[.int .i64 0, .int .i64 0, .int .i64 0, .int .i64 0, .int .i64 0, .int .i64 0, .int .i64 0, .int .i64 0]) (.agg #[.int .i64 0, .int .i64 0, .int .i64 0, .int .i64 0, .int .i64 0, .int .i64 0, .int .i64 0, .int .i64 0])).run Try.prog w = .ok true w := by
  rw [Op.equalIn]
  simp [run_underlying Try.underlying81, go_sem]
  rw [show List.range' 0 8 = [0, 1, 2, 3, 4, 5, 6, 7] from rfl]
  simp [List.forIn_cons, go_sem]
theorem pointer0 (w : World) : Calls Try.prog 61 #[.int .i64 0] w fun e w' => e = .returned (.bool true) ∧ w = w' := by
  go_enter Try.func61, Try.ntmps61
  go_wp2_with fail
  go_ret
  exact ⟨rfl, rfl⟩
set_option maxHeartbeats 4000000 in
set_option maxRecDepth 100000 in
theorem inoright1 (s : Int) (w : World) (h0 : 0 ≤ s) (h1 : s < 3840) : Calls Try.prog 48 #[.agg (inoC (1, s)).toArray] w fun e w' => e = .returned (.bool true) ∧ Below w.heap.size w w' := by
  have d1 : decide (s < 0) = false := decide_eq_false (by omega)
  have d2 : decide (s > 3840) = false := decide_eq_false (by omega)
  unfold inoC
  go_enter Try.func48, Try.ntmps48
  go_wp2_with fail
  obtain ⟨wa, hwa⟩ : ∃ wa, w.alloc (Obj.cells #[Value.int IntKind.u8 1, Value.int IntKind.u8 0, Value.int IntKind.i64 0, Value.int IntKind.i64 s, Value.int IntKind.i64 0, Value.int IntKind.i64 0, Value.int IntKind.i64 0, Value.int IntKind.i64 0, Value.int IntKind.i64 0, Value.int IntKind.i64 0, Value.int IntKind.i64 0, Value.int IntKind.i64 0, Value.int IntKind.i64 0, Value.int IntKind.i64 0] 83) = wa := ⟨_, rfl⟩
  have hb : wa.heap[w.heap.size]? = some (.cells #[Value.int IntKind.u8 1, Value.int IntKind.u8 0, Value.int IntKind.i64 0, Value.int IntKind.i64 s, Value.int IntKind.i64 0, Value.int IntKind.i64 0, Value.int IntKind.i64 0, Value.int IntKind.i64 0, Value.int IntKind.i64 0, Value.int IntKind.i64 0, Value.int IntKind.i64 0, Value.int IntKind.i64 0, Value.int IntKind.i64 0, Value.int IntKind.i64 0] 83 (0, 0)) := by rw [← hwa]; exact blk_new _ _
  have HB := Lib.hid (show Below w.heap.size w wa by rw [← hwa]; exact below_alloc (Below.refl _ _) _)
  rw [hwa]
  have x12 : wa.cell? ⟨w.heap.size, 12, none⟩ = some (.int .i64 0) := blk_cell hb 12
  have x13 : wa.cell? ⟨w.heap.size, 13, none⟩ = some (.int .i64 0) := blk_cell hb 13
  clear hb hwa
  go_loopg [4, 41] 8 (fun q _ i wr => ∃ k, k + q = 8 ∧ i = .int .i64 (k : Int) ∧ wr = wa)
  case atStart => exact ⟨0, rfl, rfl, rfl⟩
  case round =>
    obtain ⟨k, hq, rfl, rfl⟩ := hrel
    cases gk with
    | zero =>
      obtain rfl : k = 8 := by omega
      go_wp2_with fail
      refine (pointer0 wr).mono ?_
      rintro e w1 ⟨rfl, rfl⟩
      go_wp2_with fail
      refine (pointer0 wr).mono ?_
      rintro e w1 ⟨rfl, rfl⟩
      go_wp2_with fail
      go_ret
      exact ⟨rfl, HB.out⟩
    | succ q =>
      have d1 : decide ((k : Int) < 8) = true := decide_eq_true (by omega)
      have hix := index0 (k : Int) (by omega) (by omega)
      go_wp2_with fail
      clear hix
      refine (pointer0 wr).mono ?_
      rintro e w1 ⟨rfl, rfl⟩
      go_wp2_with fail
      go_roundg q
      case measure => omega
      case rel => exact ⟨k + 1, by omega, by go_num, rfl⟩
set_option maxHeartbeats 4000000 in
set_option maxRecDepth 100000 in
theorem inoright0 (w : World) : Calls Try.prog 48 #[.agg (inoC (0, 0)).toArray] w fun e w' => e = .returned (.bool true) ∧ Below w.heap.size w w' := by
  have he := eq8
  unfold inoC
  go_enter Try.func48, Try.ntmps48
  go_wp2_with fail
  obtain ⟨wa, hwa⟩ : ∃ wa, w.alloc (Obj.cells #[Value.int IntKind.u8 0, Value.int IntKind.u8 0, Value.int IntKind.i64 0, Value.int IntKind.i64 0, Value.int IntKind.i64 0, Value.int IntKind.i64 0, Value.int IntKind.i64 0, Value.int IntKind.i64 0, Value.int IntKind.i64 0, Value.int IntKind.i64 0, Value.int IntKind.i64 0, Value.int IntKind.i64 0, Value.int IntKind.i64 0, Value.int IntKind.i64 0] 83) = wa := ⟨_, rfl⟩
  have hb : wa.heap[w.heap.size]? = some (.cells #[Value.int IntKind.u8 0, Value.int IntKind.u8 0, Value.int IntKind.i64 0, Value.int IntKind.i64 0, Value.int IntKind.i64 0, Value.int IntKind.i64 0, Value.int IntKind.i64 0, Value.int IntKind.i64 0, Value.int IntKind.i64 0, Value.int IntKind.i64 0, Value.int IntKind.i64 0, Value.int IntKind.i64 0, Value.int IntKind.i64 0, Value.int IntKind.i64 0] 83 (0, 0)) := by rw [← hwa]; exact blk_new _ _
  have HB := Lib.hid (show Below w.heap.size w wa by rw [← hwa]; exact below_alloc (Below.refl _ _) _)
  rw [hwa]
  have x12 : wa.cell? ⟨w.heap.size, 12, none⟩ = some (.int .i64 0) := blk_cell hb 12
  have x13 : wa.cell? ⟨w.heap.size, 13, none⟩ = some (.int .i64 0) := blk_cell hb 13
  clear hb hwa
  go_loopg [4, 41] 8 (fun q _ i wr => ∃ k, k + q = 8 ∧ i = .int .i64 (k : Int) ∧ wr = wa)
  case atStart => exact ⟨0, rfl, rfl, rfl⟩
  case round =>
    obtain ⟨k, hq, rfl, rfl⟩ := hrel
    cases gk with
    | zero =>
      obtain rfl : k = 8 := by omega
      go_wp2_with fail
      refine (pointer0 wr).mono ?_
      rintro e w1 ⟨rfl, rfl⟩
      go_wp2_with fail
      refine (pointer0 wr).mono ?_
      rintro e w1 ⟨rfl, rfl⟩
      go_wp2_with fail
      go_ret
      exact ⟨rfl, HB.out⟩
    | succ q =>
      have d1 : decide ((k : Int) < 8) = true := decide_eq_true (by omega)
      have hix := index0 (k : Int) (by omega) (by omega)
      go_wp2_with fail
      clear hix
      refine (pointer0 wr).mono ?_
      rintro e w1 ⟨rfl, rfl⟩
      go_wp2_with fail
      go_roundg q
      case measure => omega
      case rel => exact ⟨k + 1, by omega, by go_num, rfl⟩
theorem inoright_any (x : Int × Int) (w : World) (h : InoOk x) : Calls Try.prog 48 #[.agg (inoC x).toArray] w fun e w' => e = .returned (.bool true) ∧ Below w.heap.size w w' := by
  obtain ⟨k, s⟩ := x
  rcases h with ⟨h1, h2⟩ | ⟨h1, h2, h3⟩
  · simp only at h1 h2
    subst h1; subst h2
    exact inoright0 w
  · simp only at h1 h2 h3
    subst h1
    exact inoright1 s w h2 h3
end Go.Proofs.Ytpbijdalfeaheaa.Tf

/- inode.Lay, of inodes with a kind and a size. -/
namespace Go.Proofs.Ytpbijdalfeaheaa.Tf
open Go.RowKit Go.Proofs.YtpbijdalfeaheaaW.PrintWords Go.Proofs.YtpbijdalfeaheaaW.PrintLast Go.Proofs.YtpbijdalfeaheaaW.PrintMore
set_option linter.unusedVariables false
set_option linter.unusedSimpArgs false
/-- An inode's numbers, and its bytes. -/
def inoN (x : Int × Int) : List Int := [x.1, 0, x.2] ++ List.replicate 10 0
def inoB (x : Int × Int) : List Int := layL 2 (inoN x) ++ List.replicate 6 0
theorem inoN_range {x : Int × Int} (h : InoOk x) : ∀ n ∈ inoN x, 0 ≤ n ∧ n < 256 ^ 2 := by
  intro n hn
  have h2 : 0 ≤ x.1 ∧ x.1 ≤ 1 ∧ 0 ≤ x.2 ∧ x.2 < 3840 := by rcases h with h | h <;> omega
  simp only [inoN, List.mem_append, List.mem_cons, List.not_mem_nil, or_false] at hn
  rcases hn with (rfl | rfl | rfl) | hn
  · omega
  · omega
  · omega
  · rw [List.eq_of_mem_replicate hn]; omega
theorem R_lit64 (w : World) (xs : List Int) (hm : xs.length ≤ 100000) : Kd.R (Kd.int .u64) 23 (w.alloc (.cells (nums .u64 xs).toArray 23)) w.heap.size (fun _ => True) (.slice (some ⟨w.heap.size, 0, none⟩) xs.length xs.length) xs :=
  Kd.R_of_own (own_lit w w.heap.size 23 .u64 xs (Nat.le_refl _) (by omega)) (fun _ _ => trivial)
theorem sz_arr8 : (Try.prog.info? 81).map (·.size) = some 8 := by kernel_rfl
theorem zeros_at {a b c d : Value} (j : Nat) {v : Value} (h : ([.int .i64 0, .int .i64 0, .int .i64 0, .int .i64 0, .int .i64 0, .int .i64 0, .int .i64 0, .int .i64 0] : List Value)[j]? = some v) : (#[a, b, c, d, .int .i64 0, .int .i64 0, .int .i64 0, .int .i64 0, .int .i64 0, .int .i64 0, .int .i64 0, .int .i64 0, .int .i64 0, .int .i64 0] : Array Value)[4 + j]? = some v := by
  have hj : j < 8 := by
    rcases Nat.lt_or_ge j 8 with h1 | h1
    · exact h1
    · rw [List.getElem?_eq_none (by simpa using h1)] at h; cases h
  have hk : j = 0 ∨ j = 1 ∨ j = 2 ∨ j = 3 ∨ j = 4 ∨ j = 5 ∨ j = 6 ∨ j = 7 := by omega
  rcases hk with rfl | rfl | rfl | rfl | rfl | rfl | rfl | rfl <;> exact h
theorem inoN_len (x : Int × Int) : (inoN x).length = 13 := by simp [inoN]
theorem inoB_len (x : Int × Int) : (inoB x).length = 32 := by simp [inoB, layL_len, inoN_len]
set_option maxHeartbeats 8000000 in
set_option maxRecDepth 100000 in
theorem inolay1 (s : Int) (w : World) (h0 : 0 ≤ s) (h1 : s < 3840) : Calls Try.prog 27 #[.agg (inoC (1, s)).toArray] w fun e w' => ∃ v, e = .returned (.tuple #[v, .int .i64 0]) ∧ Kd.R (Kd.int .u8) 5 w' w.heap.size (fun _ => True) v (inoB (1, s)) ∧ Below w.heap.size w w' := by
  have hcv : IntKind.u64.wrap s = s := by simp [IntKind.wrap, IntKind.bits, IntKind.signed]; omega
  unfold inoC
  go_enter Try.func27, Try.ntmps27
  go_wp2_with fail
  obtain ⟨wa, hwa⟩ : ∃ wa, w.alloc (Obj.cells #[Value.int IntKind.u8 1, Value.int IntKind.u8 0, Value.int IntKind.i64 0, Value.int IntKind.i64 s, Value.int IntKind.i64 0, Value.int IntKind.i64 0, Value.int IntKind.i64 0, Value.int IntKind.i64 0, Value.int IntKind.i64 0, Value.int IntKind.i64 0, Value.int IntKind.i64 0, Value.int IntKind.i64 0, Value.int IntKind.i64 0, Value.int IntKind.i64 0] 83) = wa := ⟨_, rfl⟩
  have hb : wa.heap[w.heap.size]? = some (.cells #[Value.int IntKind.u8 1, Value.int IntKind.u8 0, Value.int IntKind.i64 0, Value.int IntKind.i64 s, Value.int IntKind.i64 0, Value.int IntKind.i64 0, Value.int IntKind.i64 0, Value.int IntKind.i64 0, Value.int IntKind.i64 0, Value.int IntKind.i64 0, Value.int IntKind.i64 0, Value.int IntKind.i64 0, Value.int IntKind.i64 0, Value.int IntKind.i64 0] 83 (0, 0)) := by rw [← hwa]; exact blk_new _ _
  have hB : Below w.heap.size w wa := by rw [← hwa]; exact below_alloc (Below.refl _ _) _
  rw [hwa]
  refine (inoright1 s wa h0 h1).mono ?_
  rintro e w1 ⟨rfl, hB1⟩
  have hb1 := blk_below hb hB1
  have HB1 := Lib.hid (below_step hB hB1)
  clear hb hB hwa hB1
  have x0 : w1.cell? ⟨w.heap.size, 0, none⟩ = some (.int .u8 1) := blk_cell hb1 0
  have x1 : w1.cell? ⟨w.heap.size, 1, none⟩ = some (.int .u8 0) := blk_cell hb1 1
  have x2 : w1.cell? ⟨w.heap.size, 2, none⟩ = some (.int .i64 0) := blk_cell hb1 2
  have x3 : w1.cell? ⟨w.heap.size, 3, none⟩ = some (.int .i64 s) := blk_cell hb1 3
  have x4 : w1.cell? ⟨w.heap.size, 4, none⟩ = some (.int .i64 0) := blk_cell hb1 4
  have x5 : w1.cell? ⟨w.heap.size, 5, none⟩ = some (.int .i64 0) := blk_cell hb1 5
  have x6 : w1.cell? ⟨w.heap.size, 6, none⟩ = some (.int .i64 0) := blk_cell hb1 6
  have x7 : w1.cell? ⟨w.heap.size, 7, none⟩ = some (.int .i64 0) := blk_cell hb1 7
  have x8 : w1.cell? ⟨w.heap.size, 8, none⟩ = some (.int .i64 0) := blk_cell hb1 8
  have x9 : w1.cell? ⟨w.heap.size, 9, none⟩ = some (.int .i64 0) := blk_cell hb1 9
  have x10 : w1.cell? ⟨w.heap.size, 10, none⟩ = some (.int .i64 0) := blk_cell hb1 10
  have x11 : w1.cell? ⟨w.heap.size, 11, none⟩ = some (.int .i64 0) := blk_cell hb1 11
  have x12 : w1.cell? ⟨w.heap.size, 12, none⟩ = some (.int .i64 0) := blk_cell hb1 12
  have x13 : w1.cell? ⟨w.heap.size, 13, none⟩ = some (.int .i64 0) := blk_cell hb1 13
  have HX12 := Lib.hid x12
  have HX13 := Lib.hid x13
  have hor : bits BinOp.or IntKind.u64 1 0 = 1 := by decide
  have hload := Lib.hid (run_loadAt_mid (P := Try.prog) (w1.alloc (Obj.cells #[Value.int IntKind.u64 1, Value.int IntKind.u64 0, Value.int IntKind.u64 s] 23)) w.heap.size 4 81 [.int .i64 0, .int .i64 0, .int .i64 0, .int .i64 0, .int .i64 0, .int .i64 0, .int .i64 0, .int .i64 0] _ (fun j v hj => by rw [blk_cell (blk_alloc hb1 _)]; exact zeros_at _ hj) Try.underlying81 rfl (by rw [sz_arr8]; rfl))
  clear hb1 x4 x5 x6 x7 x8 x9 x10 x11 x12 x13
  go_wp2_with (first | ((with_reducible refine gate_load 81 (.tmp 27) rfl ?_); refine wpList_load_eq rfl _ _ rfl _ _ rfl hload.out ?_))
  clear x0 x1 x2 x3 hor hload
  obtain ⟨w3, hw3⟩ : ∃ w3, w1.alloc (Obj.cells #[Value.int IntKind.u64 1, Value.int IntKind.u64 0, Value.int IntKind.u64 s] 23) = w3 := ⟨_, rfl⟩
  have hR3 : Kd.R (Kd.int .u64) 23 w3 w1.heap.size (fun _ => True) (.slice (some ⟨w1.heap.size, 0, none⟩) 3 3) [1, 0, s] := by rw [← hw3]; exact R_lit64 w1 [1, 0, s] (by simp)
  have hB3 : Below w1.heap.size w1 w3 := by rw [← hw3]; exact below_alloc (Below.refl _ _) _
  rw [hw3]
  have HR3 := Lib.hid hR3
  have HB3 := Lib.hid hB3
  clear hw3 hR3 hB3
  go_loopg [4, 6, 29] 8 (fun q v4 _ i wr => ∃ k, k + q = 8 ∧ i = .int .i64 (k : Int) ∧ Hid (Kd.R (Kd.int .u64) 23 wr w1.heap.size (fun _ => True) v4 ([1, 0, s] ++ List.replicate k 0)) ∧ Hid (Below w1.heap.size w1 wr))
  case atStart => exact ⟨0, rfl, rfl, HR3, HB3⟩
  case round =>
    clear HR3 HB3
    obtain ⟨k, hq, rfl, hR, hB⟩ := hrel
    have Hw := Lib.hid hB.out.size
    cases gk with
    | zero =>
      obtain rfl : k = 8 := by omega
      have x12 : wr.cell? ⟨w.heap.size, 12, none⟩ = some (.int .i64 0) := by rw [hB.out.cell (World.block_lt_of_cell? w1 _ HX12.out)]; exact HX12.out
      have x13 : wr.cell? ⟨w.heap.size, 13, none⟩ = some (.int .i64 0) := by rw [hB.out.cell (World.block_lt_of_cell? w1 _ HX13.out)]; exact HX13.out
      obtain ⟨v4, w4, hap, hR4, hg4⟩ := (plain_int .u64).append (wr.alloc (.cells #[.int .u64 0, .int .u64 0] 23)) w1.heap.size 105 105 23 (.int .u64 0) 8 Try.underlying105 info_u64 rfl (by decide) u4 _ [0, 0] (Kd.R_below hR.out (below_alloc (Below.refl _ _) _)) (some ⟨wr.heap.size, 0, none⟩) 2 2 (by decide) (C_of_blk (k := .u64) (xs := [0, 0]) (blk_new _ _) (by simp)) (by simp) (by unfold maxLen; simp) (by have := Hw.out; simp; omega)
      rw [show ([1, 0, s] ++ List.replicate 8 0 ++ [0, 0] : List Int) = inoN (1, s) from rfl] at hR4
      have HB4 := Lib.hid (pw_below_grown (below_alloc hB.out (.cells #[.int .u64 0, .int .u64 0] 23)) _ (below_size (below_alloc hB.out _)) hg4 (fun k hk => R_base' hR.out k hk))
      obtain ⟨A8, c8, rfl, hc8, hC8⟩ := Kd.R_reads hR4
      rw [inoN_len] at hC8 hap
      have HC8 := Lib.hid hC8
      have Hap := Lib.hid hap
      clear hap hR4 hg4 hc8 hC8
      go_wp2_with (first | ((with_reducible refine gate_builtin (b := .append) (xs := #[.tmp 39, .tmp 46]) rfl ?_); at_builtin; refine wpList_append_eq rfl (.tmp 39) (.tmp 46) 105 rfl _ _ _ rfl rfl Hap.out ?_))
      clear x12 x13
      refine (layN 2 13 A8 c8 (inoN (1, s)) w4 (inoN_len _) (by omega) (by omega) (by omega) HC8.out (inoN_range (.inr ⟨rfl, h0, h1⟩))).mono ?_
      rintro e w5 ⟨v5, rfl, hR5, hB5⟩
      obtain ⟨A5, c5, rfl, hc5, hC5⟩ := Kd.R_reads hR5
      have hl26 : (layL 2 (inoN (1, s))).length = 26 := by rw [layL_len, inoN_len]
      rw [hl26] at hC5 ⊢
      have HC5 := Lib.hid hC5
      have HB5 := Lib.hid (below_step HB4.out hB5)
      have Hl := Lib.hid hl26
      clear hR5 hC5 hB5 hc5 hl26
      go_wp2_with fail
      refine (fillN A5 c5 26 _ 32 w5 Hl.out HC5.out (by omega) (by omega)).mono ?_
      rintro e w6 ⟨v6, rfl, hR6, hB6⟩
      go_wp2_with fail
      go_ret2
      exact ⟨v6, rfl, Kd.R_lower hR6 (Nat.le_trans HB1.out.size HB5.out.size), below_step (below_step HB1.out HB5.out) hB6⟩
    | succ q =>
      have d1 : decide ((k : Int) < 8) = true := decide_eq_true (by omega)
      have hix := index0 (k : Int) (by omega) (by omega)
      obtain ⟨v4, w4, hap, hR4, hg4⟩ := (plain_int .u64).append (wr.alloc (.cells #[.int .u64 0] 23)) w1.heap.size 105 105 23 (.int .u64 0) 8 Try.underlying105 info_u64 rfl (by decide) u4 _ [0] (Kd.R_below hR.out (below_alloc (Below.refl _ _) _)) (some ⟨wr.heap.size, 0, none⟩) 1 1 (by decide) (C_of_blk (k := .u64) (xs := [0]) (blk_new _ _) (by simp)) (by simp; omega) (by unfold maxLen; simp; omega) (by have := Hw.out; simp; omega)
      rw [show ([1, 0, s] ++ List.replicate k 0 ++ [0] : List Int) = [1, 0, s] ++ List.replicate (k + 1) 0 by rw [List.append_assoc, List.replicate_succ']] at hR4
      have HB4 := Lib.hid (pw_below_grown (below_alloc hB.out (.cells #[.int .u64 0] 23)) _ (below_size (below_alloc hB.out _)) hg4 (fun k hk => R_base' hR.out k hk))
      have Hap := Lib.hid hap
      have HR4 := Lib.hid hR4
      clear hap hR4 hg4
      go_wp2_with (first | ((with_reducible refine gate_builtin (b := .append) (xs := #[.tmp 32, .tmp 35]) rfl ?_); at_builtin; refine wpList_append_eq rfl (.tmp 32) (.tmp 35) 105 rfl _ _ _ rfl rfl Hap.out ?_))
      clear hix
      go_roundg q
      case measure => omega
      case rel => exact ⟨k + 1, by omega, by go_num, HR4, HB4⟩
set_option maxHeartbeats 8000000 in
set_option maxRecDepth 100000 in
theorem inolay0 (w : World) : Calls Try.prog 27 #[.agg (inoC (0, 0)).toArray] w fun e w' => ∃ v, e = .returned (.tuple #[v, .int .i64 0]) ∧ Kd.R (Kd.int .u8) 5 w' w.heap.size (fun _ => True) v (inoB (0, 0)) ∧ Below w.heap.size w w' := by
  unfold inoC
  go_enter Try.func27, Try.ntmps27
  go_wp2_with fail
  obtain ⟨wa, hwa⟩ : ∃ wa, w.alloc (Obj.cells #[Value.int IntKind.u8 0, Value.int IntKind.u8 0, Value.int IntKind.i64 0, Value.int IntKind.i64 0, Value.int IntKind.i64 0, Value.int IntKind.i64 0, Value.int IntKind.i64 0, Value.int IntKind.i64 0, Value.int IntKind.i64 0, Value.int IntKind.i64 0, Value.int IntKind.i64 0, Value.int IntKind.i64 0, Value.int IntKind.i64 0, Value.int IntKind.i64 0] 83) = wa := ⟨_, rfl⟩
  have hb : wa.heap[w.heap.size]? = some (.cells #[Value.int IntKind.u8 0, Value.int IntKind.u8 0, Value.int IntKind.i64 0, Value.int IntKind.i64 0, Value.int IntKind.i64 0, Value.int IntKind.i64 0, Value.int IntKind.i64 0, Value.int IntKind.i64 0, Value.int IntKind.i64 0, Value.int IntKind.i64 0, Value.int IntKind.i64 0, Value.int IntKind.i64 0, Value.int IntKind.i64 0, Value.int IntKind.i64 0] 83 (0, 0)) := by rw [← hwa]; exact blk_new _ _
  have hB : Below w.heap.size w wa := by rw [← hwa]; exact below_alloc (Below.refl _ _) _
  rw [hwa]
  refine (inoright0 wa).mono ?_
  rintro e w1 ⟨rfl, hB1⟩
  have hb1 := blk_below hb hB1
  have HB1 := Lib.hid (below_step hB hB1)
  clear hb hB hwa hB1
  have x0 : w1.cell? ⟨w.heap.size, 0, none⟩ = some (.int .u8 0) := blk_cell hb1 0
  have x1 : w1.cell? ⟨w.heap.size, 1, none⟩ = some (.int .u8 0) := blk_cell hb1 1
  have x2 : w1.cell? ⟨w.heap.size, 2, none⟩ = some (.int .i64 0) := blk_cell hb1 2
  have x3 : w1.cell? ⟨w.heap.size, 3, none⟩ = some (.int .i64 0) := blk_cell hb1 3
  have x4 : w1.cell? ⟨w.heap.size, 4, none⟩ = some (.int .i64 0) := blk_cell hb1 4
  have x5 : w1.cell? ⟨w.heap.size, 5, none⟩ = some (.int .i64 0) := blk_cell hb1 5
  have x6 : w1.cell? ⟨w.heap.size, 6, none⟩ = some (.int .i64 0) := blk_cell hb1 6
  have x7 : w1.cell? ⟨w.heap.size, 7, none⟩ = some (.int .i64 0) := blk_cell hb1 7
  have x8 : w1.cell? ⟨w.heap.size, 8, none⟩ = some (.int .i64 0) := blk_cell hb1 8
  have x9 : w1.cell? ⟨w.heap.size, 9, none⟩ = some (.int .i64 0) := blk_cell hb1 9
  have x10 : w1.cell? ⟨w.heap.size, 10, none⟩ = some (.int .i64 0) := blk_cell hb1 10
  have x11 : w1.cell? ⟨w.heap.size, 11, none⟩ = some (.int .i64 0) := blk_cell hb1 11
  have x12 : w1.cell? ⟨w.heap.size, 12, none⟩ = some (.int .i64 0) := blk_cell hb1 12
  have x13 : w1.cell? ⟨w.heap.size, 13, none⟩ = some (.int .i64 0) := blk_cell hb1 13
  have HX12 := Lib.hid x12
  have HX13 := Lib.hid x13
  have hor : bits BinOp.or IntKind.u64 0 0 = 0 := by decide
  have hload := Lib.hid (run_loadAt_mid (P := Try.prog) (w1.alloc (Obj.cells #[Value.int IntKind.u64 0, Value.int IntKind.u64 0, Value.int IntKind.u64 0] 23)) w.heap.size 4 81 [.int .i64 0, .int .i64 0, .int .i64 0, .int .i64 0, .int .i64 0, .int .i64 0, .int .i64 0, .int .i64 0] _ (fun j v hj => by rw [blk_cell (blk_alloc hb1 _)]; exact zeros_at _ hj) Try.underlying81 rfl (by rw [sz_arr8]; rfl))
  clear hb1 x4 x5 x6 x7 x8 x9 x10 x11 x12 x13
  go_wp2_with (first | ((with_reducible refine gate_load 81 (.tmp 27) rfl ?_); refine wpList_load_eq rfl _ _ rfl _ _ rfl hload.out ?_))
  clear x0 x1 x2 x3 hor hload
  obtain ⟨w3, hw3⟩ : ∃ w3, w1.alloc (Obj.cells #[Value.int IntKind.u64 0, Value.int IntKind.u64 0, Value.int IntKind.u64 0] 23) = w3 := ⟨_, rfl⟩
  have hR3 : Kd.R (Kd.int .u64) 23 w3 w1.heap.size (fun _ => True) (.slice (some ⟨w1.heap.size, 0, none⟩) 3 3) [0, 0, 0] := by rw [← hw3]; exact R_lit64 w1 [0, 0, 0] (by simp)
  have hB3 : Below w1.heap.size w1 w3 := by rw [← hw3]; exact below_alloc (Below.refl _ _) _
  rw [hw3]
  have HR3 := Lib.hid hR3
  have HB3 := Lib.hid hB3
  clear hw3 hR3 hB3
  go_loopg [4, 6, 29] 8 (fun q v4 _ i wr => ∃ k, k + q = 8 ∧ i = .int .i64 (k : Int) ∧ Hid (Kd.R (Kd.int .u64) 23 wr w1.heap.size (fun _ => True) v4 ([0, 0, 0] ++ List.replicate k 0)) ∧ Hid (Below w1.heap.size w1 wr))
  case atStart => exact ⟨0, rfl, rfl, HR3, HB3⟩
  case round =>
    clear HR3 HB3
    obtain ⟨k, hq, rfl, hR, hB⟩ := hrel
    have Hw := Lib.hid hB.out.size
    cases gk with
    | zero =>
      obtain rfl : k = 8 := by omega
      have x12 : wr.cell? ⟨w.heap.size, 12, none⟩ = some (.int .i64 0) := by rw [hB.out.cell (World.block_lt_of_cell? w1 _ HX12.out)]; exact HX12.out
      have x13 : wr.cell? ⟨w.heap.size, 13, none⟩ = some (.int .i64 0) := by rw [hB.out.cell (World.block_lt_of_cell? w1 _ HX13.out)]; exact HX13.out
      obtain ⟨v4, w4, hap, hR4, hg4⟩ := (plain_int .u64).append (wr.alloc (.cells #[.int .u64 0, .int .u64 0] 23)) w1.heap.size 105 105 23 (.int .u64 0) 8 Try.underlying105 info_u64 rfl (by decide) u4 _ [0, 0] (Kd.R_below hR.out (below_alloc (Below.refl _ _) _)) (some ⟨wr.heap.size, 0, none⟩) 2 2 (by decide) (C_of_blk (k := .u64) (xs := [0, 0]) (blk_new _ _) (by simp)) (by simp) (by unfold maxLen; simp) (by have := Hw.out; simp; omega)
      rw [show ([0, 0, 0] ++ List.replicate 8 0 ++ [0, 0] : List Int) = inoN (0, 0) from rfl] at hR4
      have HB4 := Lib.hid (pw_below_grown (below_alloc hB.out (.cells #[.int .u64 0, .int .u64 0] 23)) _ (below_size (below_alloc hB.out _)) hg4 (fun k hk => R_base' hR.out k hk))
      obtain ⟨A8, c8, rfl, hc8, hC8⟩ := Kd.R_reads hR4
      rw [inoN_len] at hC8 hap
      have HC8 := Lib.hid hC8
      have Hap := Lib.hid hap
      clear hap hR4 hg4 hc8 hC8
      go_wp2_with (first | ((with_reducible refine gate_builtin (b := .append) (xs := #[.tmp 39, .tmp 46]) rfl ?_); at_builtin; refine wpList_append_eq rfl (.tmp 39) (.tmp 46) 105 rfl _ _ _ rfl rfl Hap.out ?_))
      clear x12 x13
      refine (layN 2 13 A8 c8 (inoN (0, 0)) w4 (inoN_len _) (by omega) (by omega) (by omega) HC8.out (inoN_range (.inl ⟨rfl, rfl⟩))).mono ?_
      rintro e w5 ⟨v5, rfl, hR5, hB5⟩
      obtain ⟨A5, c5, rfl, hc5, hC5⟩ := Kd.R_reads hR5
      have hl26 : (layL 2 (inoN (0, 0))).length = 26 := by rw [layL_len, inoN_len]
      rw [hl26] at hC5 ⊢
      have HC5 := Lib.hid hC5
      have HB5 := Lib.hid (below_step HB4.out hB5)
      have Hl := Lib.hid hl26
      clear hR5 hC5 hB5 hc5 hl26
      go_wp2_with fail
      refine (fillN A5 c5 26 _ 32 w5 Hl.out HC5.out (by omega) (by omega)).mono ?_
      rintro e w6 ⟨v6, rfl, hR6, hB6⟩
      go_wp2_with fail
      go_ret2
      exact ⟨v6, rfl, Kd.R_lower hR6 (Nat.le_trans HB1.out.size HB5.out.size), below_step (below_step HB1.out HB5.out) hB6⟩
    | succ q =>
      have d1 : decide ((k : Int) < 8) = true := decide_eq_true (by omega)
      have hix := index0 (k : Int) (by omega) (by omega)
      obtain ⟨v4, w4, hap, hR4, hg4⟩ := (plain_int .u64).append (wr.alloc (.cells #[.int .u64 0] 23)) w1.heap.size 105 105 23 (.int .u64 0) 8 Try.underlying105 info_u64 rfl (by decide) u4 _ [0] (Kd.R_below hR.out (below_alloc (Below.refl _ _) _)) (some ⟨wr.heap.size, 0, none⟩) 1 1 (by decide) (C_of_blk (k := .u64) (xs := [0]) (blk_new _ _) (by simp)) (by simp; omega) (by unfold maxLen; simp; omega) (by have := Hw.out; simp; omega)
      rw [show ([0, 0, 0] ++ List.replicate k 0 ++ [0] : List Int) = [0, 0, 0] ++ List.replicate (k + 1) 0 by rw [List.append_assoc, List.replicate_succ']] at hR4
      have HB4 := Lib.hid (pw_below_grown (below_alloc hB.out (.cells #[.int .u64 0] 23)) _ (below_size (below_alloc hB.out _)) hg4 (fun k hk => R_base' hR.out k hk))
      have Hap := Lib.hid hap
      have HR4 := Lib.hid hR4
      clear hap hR4 hg4
      go_wp2_with (first | ((with_reducible refine gate_builtin (b := .append) (xs := #[.tmp 32, .tmp 35]) rfl ?_); at_builtin; refine wpList_append_eq rfl (.tmp 32) (.tmp 35) 105 rfl _ _ _ rfl rfl Hap.out ?_))
      clear hix
      go_roundg q
      case measure => omega
      case rel => exact ⟨k + 1, by omega, by go_num, HR4, HB4⟩
theorem inolay_any (x : Int × Int) (w : World) (h : InoOk x) : Calls Try.prog 27 #[.agg (inoC x).toArray] w fun e w' => ∃ v, e = .returned (.tuple #[v, .int .i64 0]) ∧ Kd.R (Kd.int .u8) 5 w' w.heap.size (fun _ => True) v (inoB x) ∧ Below w.heap.size w w' := by
  obtain ⟨k, s⟩ := x
  rcases h with ⟨h1, h2⟩ | ⟨h1, h2, h3⟩
  · simp only at h1 h2
    subst h1; subst h2
    exact inolay0 w
  · simp only at h1 h2 h3
    subst h1
    exact inolay1 s w h2 h3
end Go.Proofs.Ytpbijdalfeaheaa.Tf

/- slices.ContainsFunc, of zeros. -/
namespace Go.Proofs.Ytpbijdalfeaheaa.Tf
open Go.RowKit Go.Proofs.YtpbijdalfeaheaaW.PrintWords Go.Proofs.YtpbijdalfeaheaaW.PrintLast Go.Proofs.YtpbijdalfeaheaaW.PrintMore
set_option linter.unusedVariables false
set_option linter.unusedSimpArgs false
theorem isnot0 (w : World) : Calls Try.prog 65 #[.int .u64 0] w fun e w' => e = .returned (.bool false) ∧ w = w' := by
  go_enter Try.func65, Try.ntmps65
  go_wp2_with fail
  go_ret
  exact ⟨rfl, rfl⟩
set_option maxHeartbeats 4000000 in
set_option maxRecDepth 100000 in
theorem indexfunc0 (ad : Addr) (c : Nat) (w : World) (h : Kd.C (Kd.int .u64) w (some ad) 3 [0, 0, 0]) : Calls Try.prog 67 #[.slice (some ad) 3 c, .func (.func 65) #[] #[]] w fun e w' => e = .returned (.int .i64 (-1)) ∧ Below w.heap.size w w' := by
  have HC := Lib.hid h
  clear h
  go_enter Try.func67, Try.ntmps67
  go_wp2_with fail
  go_loopg [5, 8] 3 (fun q _ i wr => ∃ k, k + q = 3 ∧ i = .int .i64 (k : Int) ∧ Hid (Below w.heap.size w wr))
  case atStart => exact ⟨0, rfl, rfl, Lib.hid (Below.refl _ _)⟩
  case round =>
    obtain ⟨k, hq, rfl, hB⟩ := hrel
    cases gk with
    | zero =>
      obtain rfl : k = 3 := by omega
      go_wp2_with fail
      go_ret
      exact ⟨rfl, hB.out⟩
    | succ q =>
      have d1 : decide ((k : Int) < 3) = true := decide_eq_true (by omega)
      have q0 : 0 ≤ (k : Int) := by omega
      have q1 : (k : Int) < 3 := by omega
      obtain ⟨ad', e, hc0⟩ := at_int (Kd.C_below HC.out hB.out) k (by simp; omega)
      injection e with e
      subst e
      rw [show ([0, 0, 0] : List Int)[k]'(by simp; omega) = 0 by rcases (show k = 0 ∨ k = 1 ∨ k = 2 by omega) with rfl | rfl | rfl <;> rfl] at hc0
      go_wp2_with fail
      refine (isnot0 wr).mono ?_
      rintro e w1 ⟨rfl, rfl⟩
      clear hc0
      go_wp2_with fail
      go_roundg q
      case measure => omega
      case rel => exact ⟨k + 1, by omega, by go_num, hB⟩
theorem containsfunc0 (ad : Addr) (c : Nat) (w : World) (h : Kd.C (Kd.int .u64) w (some ad) 3 [0, 0, 0]) : Calls Try.prog 64 #[.slice (some ad) 3 c, .func (.func 65) #[] #[]] w fun e w' => e = .returned (.bool false) ∧ Below w.heap.size w w' := by
  have HC := Lib.hid h
  clear h
  go_enter Try.func64, Try.ntmps64
  go_wp2_with fail
  refine (indexfunc0 ad c w HC.out).mono ?_
  rintro e w1 ⟨rfl, hB⟩
  go_wp2_with fail
  go_ret
  exact ⟨rfl, hB⟩
end Go.Proofs.Ytpbijdalfeaheaa.Tf
