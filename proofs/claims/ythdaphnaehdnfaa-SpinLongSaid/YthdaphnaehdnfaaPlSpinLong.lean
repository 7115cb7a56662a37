/- The statement SpinLong's walk: the whirl of many bytes is found by steps, too. No condition. -/
import Derived.Test.YthdaphnaehdnfaaSpLaw
import Derived.OpenShut
namespace Go.Proofs.Ythdaphnaehdnfaa
open Go.RowKit Go.ChangeShapes Go.Proofs.Ythdaphnaehdnfaa.P Go.Proofs.Ythdaphnaehdnfaa.Sp Go.Proofs.Ythdaphnaehdnfaa.PureSpin Go.Proofs.YthdaphnaehdnfaaW.PrintWords Go.Proofs.YthdaphnaehdnfaaW.PrintLast Go.Proofs.YthdaphnaehdnfaaW.PrintMore
set_option linter.unusedVariables false
set_option linter.unusedSimpArgs false

theorem byteL_of {c : Int} (hc : 0 ≤ c ∧ c < 256) : ∃ v : UInt8, c = (v.toNat : Int) := by
  refine ⟨UInt8.ofNat c.toNat, ?_⟩
  have : (UInt8.ofNat c.toNat).toNat = c.toNat % 256 := by simp
  omega

/-- k bytes v, and noughts behind them. -/
def longCells (m : Nat) (v : UInt8) (k : Nat) : Array Value := ((List.replicate k (Value.int .u8 (v.toNat : Int))) ++ List.replicate (m - k) (Value.int .u8 0)).toArray
theorem longCells_zero (m : Nat) (v : UInt8) : longCells m v 0 = madeCells #[.int .u8 0] m := by
  apply Array.ext
  · simp [longCells, size_madeCells]
  · intro i h1 h2
    simp [longCells, madeCells, Nat.mod_one]
theorem longCells_get (m : Nat) (v : UInt8) (k i : Nat) (h : i < k) : (longCells m v k)[i]? = some (.int .u8 (v.toNat : Int)) := by
  unfold longCells
  rw [List.getElem?_toArray, List.getElem?_append_left (by simpa using h)]
  simp [h]
theorem longCells_at (m : Nat) (v : UInt8) (k : Nat) (h : k < m) : (longCells m v k)[k]? = some (.int .u8 0) := by
  unfold longCells
  rw [List.getElem?_toArray, List.getElem?_append_right (by simp), List.length_replicate, Nat.sub_self, List.getElem?_replicate, if_pos (by omega)]
theorem longCells_set (m : Nat) (v : UInt8) (k : Nat) (h : k < m) : (longCells m v k).setIfInBounds k (.int .u8 (v.toNat : Int)) = longCells m v (k + 1) := by
  unfold longCells
  rw [List.setIfInBounds_toArray]
  congr 1
  rw [List.set_append_right _ _ (by simp), List.length_replicate, Nat.sub_self, show m - k = (m - (k + 1)) + 1 by omega, List.replicate_succ, List.set_cons_zero, List.replicate_succ' (n := k)]
  simp

/-- The world in which k bytes are laid and the whirl of k bytes is held. -/
structure LongAt (w : World) (m : Nat) (v : UInt8) (k gb hs : Nat) (W : World) : Prop where
  row : W.heap[gb]? = some (.cells (longCells m v k) 5 (0, 0))
  own : W.heap[hs]? = some (.cells #[.int .i64 (Z1 1 0 (List.replicate k v)), .int .i64 (Z2 1 0 (List.replicate k v))] 23 (0, 0))
  ge : w.heap.size ≤ gb
  ge' : w.heap.size ≤ hs
  below : Below w.heap.size w W
theorem LongAt.step {w W W' : World} {m : Nat} {v : UInt8} {k gb hs : Nat} (h : LongAt w m v k gb hs W) (hb : Below W.heap.size W W') : LongAt w m v k gb hs W' :=
  ⟨blk_below h.row hb, blk_below h.own hb, h.ge, h.ge', below_step h.below hb⟩
theorem LongAt.drew {w W : World} {m : Nat} {v : UInt8} {k gb hs : Nat} (h : LongAt w m v k gb hs W) : LongAt w m v k gb hs W.drew :=
  ⟨h.row, h.own, h.ge, h.ge', below_drew1 h.below⟩
theorem long_cells {w W : World} {m : Nat} {v : UInt8} {k gb hs : Nat} (h : LongAt w m v k gb hs W) : W.cell? ⟨hs, 0, none⟩ = some (.int .i64 (Z1 1 0 (List.replicate k v))) ∧ W.cell? ⟨hs, 1, none⟩ = some (.int .i64 (Z2 1 0 (List.replicate k v))) :=
  ⟨(blk_cell h.own 0).trans rfl, (blk_cell h.own 1).trans rfl⟩
theorem long_frozen {w W : World} {m : Nat} {v : UInt8} {k gb hs : Nat} (h : LongAt w m v k gb hs W) : W.frozen? ⟨hs, 0, none⟩ = false ∧ W.frozen? ⟨hs, 1, none⟩ = false ∧ W.frozen? ⟨gb, k, none⟩ = false :=
  ⟨blk_frozen h.own 0, blk_frozen h.own 1, blk_frozen h.row k⟩
theorem strOf_replicate (m : Nat) (v : UInt8) : strOfNums (List.replicate m (v.toNat : Int)) = ⟨(List.replicate m v).toArray⟩ := by
  unfold strOfNums
  congr 1
  rw [List.map_replicate]
  simp
theorem long_conv {w W : World} {m : Nat} {v : UInt8} {gb hs : Nat} (h : LongAt w m v m gb hs W) : (convert 31 9 (.slice (some ⟨gb, 0, none⟩) m m)).run Try.prog W = .ok (.string ⟨(List.replicate m v).toArray⟩) W := by
  have := run_convert_bytes_arg (P := Try.prog) W 31 5 Try.underlying31 Try.underlying5 gb 0 m m (List.replicate m (v.toNat : Int)) (by simp) (fun i hi => by
    rw [Nat.zero_add, blk_cell h.row, longCells_get _ _ _ _ hi]; simp [List.getD_eq_getElem?_getD, hi]) 9 Try.underlying9
  rw [strOf_replicate] at this
  exact this
theorem LongAt.store {w W : World} {m : Nat} {v : UInt8} {k gb hs : Nat} (h : LongAt w m v k gb hs W) (hk : k < m) (hne : gb ≠ hs) :
    (W.setCell ⟨gb, k, none⟩ (.int .u8 (v.toNat : Int))).heap[gb]? = some (.cells (longCells m v (k + 1)) 5 (0, 0)) ∧
    (W.setCell ⟨gb, k, none⟩ (.int .u8 (v.toNat : Int))).heap[hs]? = some (.cells #[.int .i64 (Z1 1 0 (List.replicate k v)), .int .i64 (Z2 1 0 (List.replicate k v))] 23 (0, 0)) ∧
    Below w.heap.size w (W.setCell ⟨gb, k, none⟩ (.int .u8 (v.toNat : Int))) :=
  ⟨by rw [← longCells_set m v k hk]; exact blk_set h.row k _, blk_far h.own hne.symm _, below_set h.below h.ge⟩

theorem Z1_nil : Z1 1 0 [] = 1 := by decide
theorem Z2_nil : Z2 1 0 [] = 0 := by decide
theorem Z_step (k : Nat) (v : UInt8) : Z1 1 0 (List.replicate (k + 1) v) = (turnX (Z1 1 0 (List.replicate k v)) (Z2 1 0 (List.replicate k v)) 3 2 + ((v.toNat : Int) + 1)) % 257 ∧
    Z2 1 0 (List.replicate (k + 1) v) = (turnY (Z1 1 0 (List.replicate k v)) (Z2 1 0 (List.replicate k v)) 3 2 + (v.toNat : Int) % 7) % 257 := by
  have h := moreL_snoc 1 0 (List.replicate k v) v
  rw [← List.replicate_succ'] at h
  have h1 := congrArg Prod.fst h
  have h2 := congrArg Prod.snd h
  obtain ⟨⟨r1, r2⟩, r3, r4⟩ := Z_range 1 0 (List.replicate k v)
  have e1 : Z1 1 0 (List.replicate (k + 1) v) = (Z1 1 0 (List.replicate k v) * 3 - Z2 1 0 (List.replicate k v) * 2 + ((v.toNat : Int) + 1)) % 257 := h1
  have e2 : Z2 1 0 (List.replicate (k + 1) v) = (Z1 1 0 (List.replicate k v) * 2 + Z2 1 0 (List.replicate k v) * 3 + (v.toNat : Int) % 7) % 257 := h2
  rw [e1, e2]
  unfold turnX turnY
  generalize Z1 1 0 (List.replicate k v) = x at *
  generalize Z2 1 0 (List.replicate k v) = y at *
  rw [show x % 257 = x by omega, show y % 257 = y by omega]
  constructor <;> omega

theorem replicate_snoc (k : Nat) (v : UInt8) : List.replicate (k + 1) v = List.replicate k v ++ [v] := List.replicate_succ'

set_option maxHeartbeats 1000000 in
theorem long_any (v : UInt8) (n : Int) (hn : 0 ≤ n ∧ n < 65536) (w : World) :
    Calls Try.prog 6 #[.int .u8 (v.toNat : Int), .int .u16 n] w fun e w' => e = .returned (.bool true) ∧ Below w.heap.size w w' := by
  obtain ⟨m, hm, hmn⟩ : ∃ m : Nat, m ≤ 1000 ∧ n % 1001 = (m : Int) := ⟨(n % 1001).toNat, by omega, by omega⟩
  have hmk := print_make (P := Try.prog) 31 5 .u8 1 Try.underlying31 (by kernel_rfl) (by decide) m (by omega)
  have ho := of_eq ⟨(List.replicate m v).toArray⟩ (by show (List.replicate m v).toArray.size ≤ 20000; simp; omega)
  dsimp only at ho
  have HO : Hid (spin_Of.f ⟨(List.replicate m v).toArray⟩ = some (Z1 1 0 (List.replicate m v), Z2 1 0 (List.replicate m v))) := Lib.hid ho
  clear ho
  have hby := v.toNat_lt
  go_enter Try.func6, Try.ntmps6
  go_wp2_with fail
  refine (moatlaw02_shown.calls true _ shown_eq).mono ?_
  rintro e w1 ⟨rfl, hb1⟩
  have hsz1 := hb1.size
  have hL0 : LongAt w m v 0 w1.heap.size (w1.heap.size + 1) ((w1.alloc (.cells (madeCells #[.int .u8 0] m) 5)).alloc (.cells #[.int .i64 1, .int .i64 0] 23)) :=
    ⟨by rw [longCells_zero]; exact blk_alloc (blk_new _ _) _, by rw [List.replicate_zero, Z1_nil, Z2_nil]; have := blk_new (w1.alloc (.cells (madeCells #[.int .u8 0] m) 5)) (.cells #[.int .i64 1, .int .i64 0] 23); rw [World.size_alloc] at this; exact this, hsz1, by omega, (hb1.alloc hsz1 _).alloc (by simp; omega) _⟩
  have HL0 := Lib.hid hL0
  clear hL0
  go_wp2_with fail
  try rw [hmn]
  clear hmn hmk hn
  go_loopw [19] (fun i wr => ∃ k : Nat, k ≤ m ∧ i = .int .i64 k ∧ LongAt w m v k w1.heap.size (w1.heap.size + 1) wr) (fun i _ => m - (intOf i).toNat)
  case atStart => exact ⟨0, Nat.zero_le _, rfl, HL0.out⟩
  case round =>
    obtain ⟨k, hk, rfl, hL⟩ := hrel
    by_cases hlt : k < m
    · obtain ⟨hs0, hs1, hsB⟩ := hL.store hlt (by omega)
      have hc0 : wr.cell? ⟨w1.heap.size, k, none⟩ = some (.int .u8 0) := (blk_cell hL.row k).trans (longCells_at m v k hlt)
      obtain ⟨hf0, hf1, hf2⟩ := long_frozen hL
      obtain ⟨W2, hW2⟩ : ∃ W2, W2 = wr.setCell ⟨w1.heap.size, k, none⟩ (.int .u8 (v.toNat : Int)) := ⟨_, rfl⟩
      rw [← hW2] at hs0 hs1 hsB
      have d0 : (wr.setCell ⟨w1.heap.size, k, none⟩ (.int .u8 (v.toNat : Int))).cell? ⟨w1.heap.size + 1, 0, none⟩ = some (.int .i64 (Z1 1 0 (List.replicate k v))) := by rw [← hW2]; exact (blk_cell hs1 0).trans rfl
      have d1 : (wr.setCell ⟨w1.heap.size, k, none⟩ (.int .u8 (v.toNat : Int))).cell? ⟨w1.heap.size + 1, 1, none⟩ = some (.int .i64 (Z2 1 0 (List.replicate k v))) := by rw [← hW2]; exact (blk_cell hs1 1).trans rfl
      have HW2 := Lib.hid hW2
      clear hW2 hL
      go_wp2_with fail
      refine (spin_Turn.calls _ _ _ _ _ _ _ rfl).mono ?_
      rintro e w2 ⟨rfl, hb2⟩
      rw [← HW2.out] at hb2
      go_wp2_with fail
      refine (spin_Push.calls _ _ _ _ _ _ _ rfl).mono ?_
      rintro e w3 ⟨rfl, hb3⟩
      have g0 := blk_below (blk_below hs0 hb2) hb3
      have g1 := blk_below (blk_below hs1 hb2) hb3
      have gB := below_step (below_step hsB hb2) hb3
      have c0 : w3.cell? ⟨w1.heap.size + 1, 0, none⟩ = some (.int .i64 (Z1 1 0 (List.replicate k v))) := (blk_cell g1 0).trans rfl
      have c1 : w3.cell? ⟨w1.heap.size + 1, 1, none⟩ = some (.int .i64 (Z2 1 0 (List.replicate k v))) := (blk_cell g1 1).trans rfl
      have z0 := blk_frozen g1 0
      have z1 := blk_frozen g1 1
      obtain ⟨zs1, zs2⟩ := Z_step k v
      have HZ1 := Lib.hid zs1
      have HZ2 := Lib.hid zs2
      clear zs1 zs2
      have hne : w1.heap.size ≠ w1.heap.size + 1 := by omega
      go_wp2
      go_roundw
      case rel => exact ⟨k + 1, by omega, by go_num, blk_far (blk_far g0 hne _) hne _, by rw [HZ1.out, HZ2.out]; exact blk_put (cs := #[.int .i64 _, .int .i64 (Z2 1 0 (List.replicate k v))]) (blk_put g1 0 _ rfl) 1 _ rfl, hsz1, by omega, below_set (below_set gB (by omega)) (by omega)⟩
      case measure => simp [intOf]; omega
    · have hkm : k = m := by omega
      subst hkm
      clear hlt hk
      go_wp2_with fail
      have hL := hL
      refine start_ (n := 9) (S := LongAt w k v k w1.heap.size (w1.heap.size + 1)) (ds := []) #[false, false, false, false, false, false, false, false, false] (by kernel_rfl) rfl rfl (hL.drew) (fun hHeld => ?_)
      refine pure_ (i := 0) (N := some 38) (v := ?_) (a' := ?_) #[true, false, false, false, false, false, false, false, false] rfl rfl (by kernel_rfl) (fun _ _ _ h => h) (Or.inl ⟨by rfl, ?_⟩) ?_ ?_
      rotate_left
      · intro w'
        go_simp
        with_reducible rfl
      rotate_left
      · simp only [Act.put, List.setIfInBounds_toArray, List.set_cons_zero, List.set_cons_succ, i64_w, i32_w]
        rfl
      refine pure_ (i := 1) (N := some 39) (v := ?_) (a' := ?_) #[true, true, false, false, false, false, false, false, false] rfl rfl (by kernel_rfl) (fun _ _ _ h => h) (Or.inl ⟨by rfl, ?_⟩) ?_ ?_
      rotate_left
      · intro w'
        go_simp
        with_reducible rfl
      rotate_left
      · simp only [Act.put, List.setIfInBounds_toArray, List.set_cons_zero, List.set_cons_succ, i64_w, i32_w]
        rfl
      refine pure_ (i := 2) (N := some 40) (v := ?_) (a' := ?_) #[true, true, true, false, false, false, false, false, false] rfl rfl (by kernel_rfl) (fun _ _ _ h => h) (Or.inl ⟨by rfl, ?_⟩) ?_ ?_
      rotate_left
      · intro w'
        go_simp
        with_reducible rfl
      rotate_left
      · simp only [Act.put, List.setIfInBounds_toArray, List.set_cons_zero, List.set_cons_succ, i64_w, i32_w]
        rfl
      refine take_ (i := 3) (N := some 41) (v := ?_) (a' := ?_) #[true, true, true, true, false, false, false, false, false] rfl rfl (by kernel_rfl) (fun _ _ _ h => h) (Or.inl ⟨by rfl, ?_⟩) hHeld ?_ ?_
      rotate_left
      · rintro w' hS
        have hcv := long_conv hS
        go_simp
        with_reducible rfl
      rotate_left
      · simp only [Act.put, List.setIfInBounds_toArray, List.set_cons_zero, List.set_cons_succ, i64_w, i32_w]
        rfl
      refine take_ (i := 5) (N := some 43) (v := ?_) (a' := ?_) #[true, true, true, true, false, true, false, false, false] rfl rfl (by kernel_rfl) (fun _ _ _ h => h) (Or.inl ⟨by rfl, ?_⟩) hHeld ?_ ?_
      rotate_left
      · rintro w' hS
        obtain ⟨hc0, hc1⟩ := long_cells hS
        go_simp
        with_reducible rfl
      rotate_left
      · simp only [Act.put, List.setIfInBounds_toArray, List.set_cons_zero, List.set_cons_succ, i64_w, i32_w]
        rfl
      refine one_ (i := 4) (N := some 42) #[true, true, true, true, true, true, false, false, false] rfl rfl (by kernel_rfl) (by decide) (fun K hK => ?_)
      refine goes_ Try.func11 (by kernel_rfl) rfl #[.string ⟨(List.replicate k v).toArray⟩] (by rfl) rfl rfl (by (try simp only [List.map_toArray, List.map_cons, List.map_nil]); first | done | rfl) ?_
      with_reducible refine (spin_Of.calls _ _ _ _ HO.out).mono ?_
      rintro e w4 ⟨rfl, hb4⟩
      refine ⟨_, rfl, ?_⟩
      refine hK.out _ _ (hHeld.step hb4) (fun hHeld => ?_)
      clear hK K
      refine norm_ (a' := ?_) ?_ ?_
      rotate_left
      · show Act.put _ (some 42) _ = _
        simp only [Act.put, List.setIfInBounds_toArray, List.set_cons_zero, List.set_cons_succ, i64_w, i32_w]
        rfl
      refine pure_ (i := 6) (N := some 44) (v := ?_) (a' := ?_) #[true, true, true, true, true, true, true, false, false] rfl rfl (by kernel_rfl) (fun _ _ _ h => h) (Or.inl ⟨by rfl, ?_⟩) ?_ ?_
      rotate_left
      · intro w'
        go_simp
        with_reducible rfl
      rotate_left
      · simp only [Act.put, List.setIfInBounds_toArray, List.set_cons_zero, List.set_cons_succ, i64_w, i32_w]
        rfl
      refine pure_ (i := 7) (N := some 45) (v := ?_) (a' := ?_) #[true, true, true, true, true, true, true, true, false] rfl rfl (by kernel_rfl) (fun _ _ _ h => h) (Or.inl ⟨by rfl, ?_⟩) ?_ ?_
      rotate_left
      · intro w'
        go_simp
        with_reducible rfl
      rotate_left
      · simp only [Act.put, List.setIfInBounds_toArray, List.set_cons_zero, List.set_cons_succ, i64_w, i32_w]
        rfl
      refine pure_ (i := 8) (N := some 4) (v := ?_) (a' := ?_) #[true, true, true, true, true, true, true, true, true] rfl rfl (by kernel_rfl) (fun _ _ _ h => h) (Or.inl ⟨by rfl, ?_⟩) ?_ ?_
      rotate_left
      · intro w'
        go_simp
        with_reducible rfl
      rotate_left
      · simp only [Act.put, List.setIfInBounds_toArray, List.set_cons_zero, List.set_cons_succ, i64_w, i32_w]
        rfl
      refine done_ (by kernel_rfl) ?_
      go_wp2
      go_ret
      exact ⟨by simp, hHeld.below⟩

theorem SpinLong_walk (c : Int) (hc : (Lit.int .u8 c).wf = true) (n : Int) (hn : (Lit.int .u16 n).wf = true) (w : World) :
    Calls Try.prog 6 #[.int .u8 c, .int .u16 n] w fun e w' => e = .returned (.bool true) ∧ Below w.heap.size w w' := by
  obtain ⟨v, rfl⟩ := byteL_of (c := c) (by have := bounds_u8 hc; omega)
  exact long_any v n (by have := bounds_u16 hn; omega) w

end Go.Proofs.Ythdaphnaehdnfaa
