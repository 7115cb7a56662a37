/- Walks and plain laws on which the claim stands, several texts joined. -/
import Derived.Test.YtpbijdalfeaheaaM5

/- journal: laid. -/
namespace Go.Proofs.Ytpbijdalfeaheaa.Tf
open Go.RowKit Go.Proofs.YtpbijdalfeaheaaW.PrintWords Go.Proofs.YtpbijdalfeaheaaW.PrintLast Go.Proofs.YtpbijdalfeaheaaW.PrintMore
set_option linter.unusedVariables false
set_option linter.unusedSimpArgs false
theorem jreadI (B gj gd gs : Nat) (seq : Int) (D : Dk) (n : Nat) (i : Int) (w : World) (hi : i = (n : Int)) (h : JAt w gj gd seq) (hD : DiskAt w B gd gs D) (hd : D.dead = false) (hn : n < 88) :
    Calls Try.prog 41 #[.pointer (some ⟨gj, 0, none⟩), .int .i64 i] w fun e w' => ∃ v, e = .returned v ∧ Kd.R (Kd.int .u8) 5 w' w.heap.size (fun _ => True) v (D.secs.getD n []) ∧ Below w.heap.size w w' := by
  subst hi; exact jread_any B gj gd gs seq D n w h hD hd hn
theorem run_exec_alloc {o : Oper} {a : Act} (ho : o.op = .alloc 50) (W : World) :
    (execOp a.eval o).run Try.prog W = .ok (.value (.pointer (some ⟨W.heap.size, 0, none⟩))) (W.alloc (.cells #[.int .i64 0, .slice none 0 0, .int .u16 0] 50)) := by
  obtain ⟨i0, hi, hz⟩ := Option.map_eq_some_iff.1 info_patch
  simp only [Prod.mk.injEq] at hz
  have h : (Instr.alloc 50 true (.tuple #[])).run Try.prog W = .ok (.pointer (some ⟨W.heap.size, 0, none⟩)) (W.alloc (.cells #[.int .i64 0, .slice none 0 0, .int .u16 0] 50)) := by
    simp [Instr.alloc, zeroValue, typeInfo, hi, hz.1, newVar, newRow, Value.cells]
  unfold execOp
  simp only [ho, Sem.run_bind, Sem.run_pure, Result.andThen_ok, h]
theorem built_patch3 (i : Int) (A : Option Addr) (n c : Nat) : Try.prog.built 50 [(0, .int .i64 i), (1, .slice A n c), (2, .int .u16 0)] = some #[.int .i64 i, .slice A n c, .int .u16 0] := by kernel_rfl
/-- The blocks of bytes. -/
def okT (b0 : Nat) (W : World) (k : Nat) : Prop := b0 ≤ k ∧ ∃ cells, W.heap[k]? = some (.cells cells 5 (0, 0))
theorem Says.typed {b0 : Nat} {W W1 : World} {rows : List Raw} {xs : List (Nat × List Int)} (h : Says W (okT b0 W) rows xs) (hm : ∀ k cells, b0 ≤ k → W.heap[k]? = some (.cells cells 5 (0, 0)) → W1.heap[k]? = W.heap[k]?) : Says W1 (okT b0 W1) rows xs :=
  (h.step (fun k hk _ => by obtain ⟨c, hc⟩ := hk.2; exact hm k c hk.1 hc)).mono (fun k hk => by obtain ⟨h1, c, hc⟩ := hk; exact ⟨h1, c, (hm k c h1 hc).trans hc⟩)
/-- The list's numbers, as they are taken. -/
def numsT (xs : List (Nat × List Int)) : List Int := numsL xs ++ List.replicate 14 0
theorem numsT_len {xs : List (Nat × List Int)} (h : xs.length = 9) : (numsT xs).length = 32 := by simp [numsT, numsL_len, h]
theorem listB_lay {xs : List (Nat × List Int)} (h : xs.length = 9) : listB xs = layL 2 (numsT xs) := by
  unfold listB numsT
  rw [layL_append, h]
  rfl
theorem numsL_at : ∀ (xs : List (Nat × List Int)) (k : Nat) (hk : k < xs.length), (numsL xs)[2 * k]? = some (xs[k].1 : Int) ∧ (numsL xs)[2 * k + 1]? = some 0 := by
  intro xs
  induction xs with
  | nil => intro k hk; simp at hk
  | cons x xs ih =>
    intro k hk
    have e : numsL (x :: xs) = (x.1 : Int) :: 0 :: numsL xs := rfl
    rw [e]
    cases k with
    | zero => exact ⟨rfl, rfl⟩
    | succ k =>
      have h := ih k (by simpa using hk)
      have e1 : 2 * (k + 1) = 2 * k + 1 + 1 := by omega
      have e2 : 2 * (k + 1) + 1 = 2 * k + 1 + 1 + 1 := by omega
      rw [e2, e1]
      exact h
theorem numsT_at {xs : List (Nat × List Int)} (h : xs.length = 9) (k : Nat) (hk : k < xs.length) (h1 : 2 * k < (numsT xs).length) (h2 : 2 * k + 1 < (numsT xs).length) : (numsT xs)[2 * k] = (xs[k].1 : Int) ∧ (numsT xs)[2 * k + 1] = 0 := by
  have hl := numsL_len xs
  obtain ⟨a, b⟩ := numsL_at xs k hk
  have a2 : (numsT xs)[2 * k]? = some (xs[k].1 : Int) := by unfold numsT; rw [List.getElem?_append_left (by omega)]; exact a
  have b2 : (numsT xs)[2 * k + 1]? = some 0 := by unfold numsT; rw [List.getElem?_append_left (by omega)]; exact b
  rw [List.getElem?_eq_getElem h1] at a2
  rw [List.getElem?_eq_getElem h2] at b2
  exact ⟨by injection a2, by injection b2⟩
theorem numsT_range {xs : List (Nat × List Int)} (h : ∀ x ∈ xs, Pok x) : ∀ n ∈ numsT xs, 0 ≤ n ∧ n < 256 ^ 2 := by
  intro n hn
  rcases List.mem_append.1 hn with hn | hn
  · exact numsL_range h n hn
  · rw [List.eq_of_mem_replicate hn]; omega
/-- What the loop leaves. -/
def LaidOut (w0 : World) (xs : List (Nat × List Int)) (v6 : Value) (wr : World) : Prop :=
  ∃ A cap rows, v6 = .slice A 9 cap ∧ 9 ≤ cap ∧ RP.R 50 wr w0.heap.size (fun _ => True) v6 rows ∧ Says wr (okT w0.heap.size wr) rows xs ∧ Below w0.heap.size w0 wr
set_option maxHeartbeats 16000000 in
set_option maxRecDepth 100000 in
theorem laid_any (B gj gd gs : Nat) (seq : Int) (D : Dk) (xs : List (Nat × List Int)) (w : World) (hJ : JAt w gj gd seq) (hD : DiskAt w B gd gs D) (hd : D.dead = false) (hx : Nine xs) (hn : xs.length = 9)
    (h2 : D.secs.getD 2 [] = listB xs) (h3 : ∀ k (hk : k < xs.length), D.secs.getD (3 + k) [] = xs[k].2) :
    Calls Try.prog 21 #[.pointer (some ⟨gj, 0, none⟩), .int .i64 9] w fun e w' => ∃ A c, e = .returned (.tuple #[.slice A 9 c, .bool true]) ∧ 9 ≤ c ∧ Kd.F PK w' (fun k => w.heap.size ≤ k) A 9 xs ∧ Below w.heap.size w w' := by
  have HJ := Lib.hid hJ
  have HD := Lib.hid hD
  have HX := Lib.hid hx
  have HN := Lib.hid hn
  have H2 := Lib.hid h2
  have H3 := Lib.hid h3
  have Hdead := Lib.hid hd
  have x1 := hJ.from_
  clear hJ hD hx hn h2 h3 hd
  go_enter Try.func21, Try.ntmps21
  go_wp2_with fail
  clear x1
  go_loopg [6, 7] 1 (fun q v6 v7 wr => (q = 1 ∧ v6 = .slice none 0 0 ∧ v7 = .int .i64 2 ∧ wr = w) ∨ (q = 0 ∧ Hid (LaidOut w xs v6 wr)))
  case atStart => exact .inl ⟨rfl, rfl, rfl, rfl⟩
  case round =>
    rcases hrel with ⟨rfl, rfl, rfl, hwr⟩ | ⟨rfl, hO⟩
    · obtain ⟨w0, hw0⟩ : ∃ w0, w0 = wr := ⟨_, rfl⟩
      rw [← hw0] at hwr ⊢
      subst hwr
      clear hw0
      go_wp2_with fail
      refine (jreadI B gj gd gs seq D 2 2 w0 rfl HJ.out HD.out Hdead.out (by omega)).mono ?_
      rintro e w1 ⟨v1, rfl, hR1, hB1⟩
      rw [H2.out, listB_lay HN.out] at hR1
      have hl64 : (layL 2 (numsT xs)).length = 64 := by rw [layL_len, numsT_len HN.out]
      obtain ⟨A1, c1, rfl, hc1, hC1⟩ := Kd.R_reads hR1
      rw [hl64] at hc1 hC1 ⊢
      have HC1 := Lib.hid hC1
      have HB1 := Lib.hid hB1
      clear hl64 hR1 hC1 hB1
      go_wp2_with fail
      refine (take_any 2 64 A1 c1 (numsT xs) w1 (by omega) (by omega) (by rw [numsT_len HN.out]) (by omega) HC1.out hc1 (numsT_range HX.out.pok)).mono ?_
      rintro e w2 ⟨v2, rfl, hR2, hB2⟩
      obtain ⟨A2, c2, rfl, hc2, hC2⟩ := Kd.R_reads hR2
      rw [numsT_len HN.out] at hc2 hC2 ⊢
      have HC2 := Lib.hid hC2
      have HB2 := Lib.hid (below_step HB1.out hB2)
      have h8 : ∃ g8, A2 = some ⟨g8, 0, none⟩ := by
        obtain ⟨g, cap, e⟩ := R_some hR2 (by rw [numsT_len HN.out]; decide)
        injection e with e
        exact ⟨g, e⟩
      obtain ⟨g8, rfl⟩ := h8
      clear hR2 hC2 hB2
      go_wp2_with fail
      obtain ⟨wn, hwn⟩ : ∃ wn : World, wn = w2 := ⟨_, rfl⟩
      subst hwn
      go_loopg [6, 11, 12, 35] 9 (fun q v6 _ _ i wr => ∃ k rows, k + q = 9 ∧ i = .int .i64 (k : Int) ∧ Hid (RP.R 50 wr wn.heap.size (fun _ => True) v6 rows) ∧ Hid (Says wr (okT wn.heap.size wr) rows (xs.take k)) ∧ Hid (Below wn.heap.size wn wr))
      case atStart => exact ⟨0, [], rfl, rfl, Lib.hid (Kd.R_nil _ _ _ _ _), Lib.hid (Says.nil _ _), Lib.hid (Below.refl _ _)⟩
      case round =>
        obtain ⟨k, rows, hq, rfl, hR, hS, hB⟩ := hrel
        cases gk with
        | zero =>
          obtain rfl : k = 9 := by omega
          have d1 : decide ((9 : Int) < 9) = false := rfl
          have e9 : xs.take 9 = xs := List.take_of_length_le (by rw [HN.out]; exact Nat.le_refl _)
          have hO : LaidOut w0 xs u6 wr := by
            have hS9 := hS.out
            rw [e9] at hS9
            have hr9 : rows.length = 9 := by rw [hS9.1, HN.out]
            obtain ⟨A, c, e, hc, _⟩ := Kd.R_reads hR.out
            rw [hr9] at e hc
            exact ⟨A, c, rows, e, hc, Kd.R_lower hR.out HB2.out.size, hS9.mono (fun k hk => ⟨Nat.le_trans HB2.out.size hk.1, hk.2⟩), below_step HB2.out hB.out⟩
          have HO := Lib.hid hO
          clear hO e9
          go_wp2_with fail
          go_roundg 0
          case measure => omega
          case rel => exact .inr ⟨rfl, HO⟩
        | succ q =>
          have hkl : k < xs.length := by rw [HN.out]; omega
          obtain ⟨x, hx⟩ : ∃ x, xs[k] = x := ⟨_, rfl⟩
          have Hx := Lib.hid (HX.out x (by rw [← hx]; exact List.getElem_mem hkl))
          have hl32 := numsT_len HN.out
          obtain ⟨hn0, hn1⟩ := numsT_at HN.out k hkl (by omega) (by omega)
          rw [hx] at hn0
          have hCr := Kd.C_below HC2.out hB.out
          rw [← hl32] at hCr
          obtain ⟨ad, e, hc0⟩ := at_int hCr (2 * k) (by omega)
          injection e with e
          subst e
          obtain ⟨ad', e, hc1⟩ := at_int hCr (2 * k + 1) (by omega)
          injection e with e
          subst e
          rw [hn0, Addr.add_mid, Nat.zero_add] at hc0
          rw [hn1, Addr.add_mid, Nat.zero_add] at hc1
          have Hn0 : Hid (∀ w', Below wr.heap.size wr w' → w'.cell? ⟨g8, 2 * k, none⟩ = some (.int .u64 (x.1 : Int))) := Lib.hid (fun w' hS => by rw [hS.cell (World.block_lt_of_cell? wr _ hc0)]; exact hc0)
          have Hn1 : Hid (∀ w', Below wr.heap.size wr w' → w'.cell? ⟨g8, 2 * k + 1, none⟩ = some (.int .u64 0)) := Lib.hid (fun w' hS => by rw [hS.cell (World.block_lt_of_cell? wr _ hc1)]; exact hc1)
          have HJ2 := Lib.hid (HJ.out.below (below_weaken HB2.out HB2.out.size hB.out))
          have HD2 := Lib.hid (HD.out.below (below_weaken HB2.out HB2.out.size hB.out))
          have Hsec := Lib.hid (show D.secs.getD (3 + k) [] = x.2 by rw [H3.out k hkl, hx])
          have Hxl := Lib.hid Hx.out.2.2
          have Htk := Lib.hid (show xs.take (k + 1) = xs.take k ++ [x] by rw [List.take_succ_eq_append_getElem hkl, hx])
          have Hrl := Lib.hid (show rows.length ≤ 9 by rw [hS.out.1, List.length_take]; omega)
          have Hxa := Lib.hid (show (31 : Int) ≤ (x.1 : Int) ∧ (x.1 : Int) < 88 by have := Hx.out; omega)
          have hcv : IntKind.i64.wrap (x.1 : Int) = (x.1 : Int) := by rw [i64_w]; unfold wrap64; have := Hxa.out; omega
          clear hx hkl hl32 hn0 hn1 hCr hc0 hc1
          have d1 : decide ((k : Int) < 9) = true := decide_eq_true (by omega)
          have s1 : wrap64 (2 * (k : Int)) = 2 * (k : Int) := by unfold wrap64; omega
          have s2 : wrap64 (2 * (k : Int) + 1) = 2 * (k : Int) + 1 := by unfold wrap64; omega
          have s3 : wrap64 (3 + (k : Int)) = 3 + (k : Int) := by unfold wrap64; omega
          have s4 : IntKind.i64.wrap (2 * (k : Int)) = 2 * (k : Int) := by rw [i64_w]; exact s1
          have s5 : IntKind.i64.wrap (2 * (k : Int) + 1) = 2 * (k : Int) + 1 := by rw [i64_w]; exact s2
          have s6 : IntKind.i64.wrap (3 + (k : Int)) = 3 + (k : Int) := by rw [i64_w]; exact s3
          have s7 : IntKind.i64.wrap 3 = 3 := rfl
          have t1 : (2 * (k : Int)).toNat = 2 * k := by omega
          have t2 : (2 * (k : Int) + 1).toNat = 2 * k + 1 := by omega
          have b0 : 0 ≤ (k : Int) := by omega
          have b1 : 0 ≤ 2 * (k : Int) := by omega
          have b2 : 2 * (k : Int) < 32 := by omega
          have b3 : 0 ≤ 2 * (k : Int) + 1 := by omega
          have b4 : 2 * (k : Int) + 1 < 32 := by omega
          go_wp2_with fail
          refine start_ (n := 22) (S := (fun W => Below wr.heap.size wr W)) (ds := [21]) #[false, false, false, false, false, false, false, false, false, false, false, false, false, false, false, false, false, false, false, false, false, false] (by kernel_rfl) rfl rfl (below_drew (Below.refl _ _)) (fun hHeld => ?_)
          refine pure_ (i := 0) (N := some 38) (v := ?_) (a' := ?_) #[true, false, false, false, false, false, false, false, false, false, false, false, false, false, false, false, false, false, false, false, false, false] rfl rfl (by kernel_rfl) (fun _ _ _ h => h) (Or.inl ⟨by rfl, ?_⟩) ?_ ?_
          rotate_left
          · intro w'
            go_simp
            with_reducible rfl
          rotate_left
          · simp only [Act.put, List.setIfInBounds_toArray, List.set_cons_zero, List.set_cons_succ, i64_w, i32_w]
            rfl
          refine pure_ (i := 1) (N := some 39) (v := ?_) (a' := ?_) #[true, true, false, false, false, false, false, false, false, false, false, false, false, false, false, false, false, false, false, false, false, false] rfl rfl (by kernel_rfl) (fun _ _ _ h => h) (Or.inl ⟨by rfl, ?_⟩) ?_ ?_
          rotate_left
          · intro w'
            go_simp
            with_reducible rfl
          rotate_left
          · simp only [Act.put, List.setIfInBounds_toArray, List.set_cons_zero, List.set_cons_succ, i64_w, i32_w]
            rfl
          refine pure_ (i := 2) (N := some 40) (v := ?_) (a' := ?_) #[true, true, true, false, false, false, false, false, false, false, false, false, false, false, false, false, false, false, false, false, false, false] rfl rfl (by kernel_rfl) (fun _ _ _ h => h) (Or.inl ⟨by rfl, ?_⟩) ?_ ?_
          rotate_left
          · intro w'
            go_simp
            with_reducible rfl
          rotate_left
          · simp only [Act.put, List.setIfInBounds_toArray, List.set_cons_zero, List.set_cons_succ, i64_w, i32_w]
            rfl
          refine pure_ (i := 3) (N := some 41) (v := ?_) (a' := ?_) #[true, true, true, true, false, false, false, false, false, false, false, false, false, false, false, false, false, false, false, false, false, false] rfl rfl (by kernel_rfl) (fun _ _ _ h => h) (Or.inl ⟨by rfl, ?_⟩) ?_ ?_
          rotate_left
          · intro w'
            go_simp
            with_reducible rfl
          rotate_left
          · simp only [Act.put, List.setIfInBounds_toArray, List.set_cons_zero, List.set_cons_succ, i64_w, i32_w]
            rfl
          refine take_ (i := 4) (N := some 42) (v := ?_) (a' := ?_) #[true, true, true, true, true, false, false, false, false, false, false, false, false, false, false, false, false, false, false, false, false, false] rfl rfl (by kernel_rfl) (fun _ _ _ h => h) (Or.inl ⟨by rfl, ?_⟩) hHeld ?_ ?_
          rotate_left
          · rintro w' hS
            have y1 := Hn0.out w' hS
            go_simp
            with_reducible rfl
          rotate_left
          · simp only [Act.put, List.setIfInBounds_toArray, List.set_cons_zero, List.set_cons_succ, i64_w, i32_w]
            rfl
          refine pure_ (i := 5) (N := some 43) (v := ?_) (a' := ?_) #[true, true, true, true, true, true, false, false, false, false, false, false, false, false, false, false, false, false, false, false, false, false] rfl rfl (by kernel_rfl) (fun _ _ _ h => h) (Or.inl ⟨by rfl, ?_⟩) ?_ ?_
          rotate_left
          · intro w'
            go_simp
            with_reducible rfl
          rotate_left
          · simp only [Act.put, List.setIfInBounds_toArray, List.set_cons_zero, List.set_cons_succ, i64_w, i32_w]
            rfl
          refine pure_ (i := 6) (N := some 44) (v := ?_) (a' := ?_) #[true, true, true, true, true, true, true, false, false, false, false, false, false, false, false, false, false, false, false, false, false, false] rfl rfl (by kernel_rfl) (fun _ _ _ h => h) (Or.inl ⟨by rfl, ?_⟩) ?_ ?_
          rotate_left
          · intro w'
            go_simp
            with_reducible rfl
          rotate_left
          · simp only [Act.put, List.setIfInBounds_toArray, List.set_cons_zero, List.set_cons_succ, i64_w, i32_w]
            rfl
          refine pure_ (i := 7) (N := some 45) (v := ?_) (a' := ?_) #[true, true, true, true, true, true, true, true, false, false, false, false, false, false, false, false, false, false, false, false, false, false] rfl rfl (by kernel_rfl) (fun _ _ _ h => h) (Or.inl ⟨by rfl, ?_⟩) ?_ ?_
          rotate_left
          · intro w'
            go_simp
            with_reducible rfl
          rotate_left
          · simp only [Act.put, List.setIfInBounds_toArray, List.set_cons_zero, List.set_cons_succ, i64_w, i32_w]
            rfl
          refine pure_ (i := 8) (N := some 46) (v := ?_) (a' := ?_) #[true, true, true, true, true, true, true, true, true, false, false, false, false, false, false, false, false, false, false, false, false, false] rfl rfl (by kernel_rfl) (fun _ _ _ h => h) (Or.inl ⟨by rfl, ?_⟩) ?_ ?_
          rotate_left
          · intro w'
            go_simp
            with_reducible rfl
          rotate_left
          · simp only [Act.put, List.setIfInBounds_toArray, List.set_cons_zero, List.set_cons_succ, i64_w, i32_w]
            rfl
          refine pure_ (i := 9) (N := some 47) (v := ?_) (a' := ?_) #[true, true, true, true, true, true, true, true, true, true, false, false, false, false, false, false, false, false, false, false, false, false] rfl rfl (by kernel_rfl) (fun _ _ _ h => h) (Or.inl ⟨by rfl, ?_⟩) ?_ ?_
          rotate_left
          · intro w'
            go_simp
            with_reducible rfl
          rotate_left
          · simp only [Act.put, List.setIfInBounds_toArray, List.set_cons_zero, List.set_cons_succ, i64_w, i32_w]
            rfl
          refine pure_ (i := 10) (N := some 48) (v := ?_) (a' := ?_) #[true, true, true, true, true, true, true, true, true, true, true, false, false, false, false, false, false, false, false, false, false, false] rfl rfl (by kernel_rfl) (fun _ _ _ h => h) (Or.inl ⟨by rfl, ?_⟩) ?_ ?_
          rotate_left
          · intro w'
            go_simp
            with_reducible rfl
          rotate_left
          · simp only [Act.put, List.setIfInBounds_toArray, List.set_cons_zero, List.set_cons_succ, i64_w, i32_w]
            rfl
          refine pure_ (i := 12) (N := some 50) (v := ?_) (a' := ?_) #[true, true, true, true, true, true, true, true, true, true, true, false, true, false, false, false, false, false, false, false, false, false] rfl rfl (by kernel_rfl) (fun _ _ _ h => h) (Or.inl ⟨by rfl, ?_⟩) ?_ ?_
          rotate_left
          · intro w'
            go_simp
            with_reducible rfl
          rotate_left
          · simp only [Act.put, List.setIfInBounds_toArray, List.set_cons_zero, List.set_cons_succ, i64_w, i32_w]
            rfl
          refine pure_ (i := 13) (N := some 51) (v := ?_) (a' := ?_) #[true, true, true, true, true, true, true, true, true, true, true, false, true, true, false, false, false, false, false, false, false, false] rfl rfl (by kernel_rfl) (fun _ _ _ h => h) (Or.inl ⟨by rfl, ?_⟩) ?_ ?_
          rotate_left
          · intro w'
            go_simp
            with_reducible rfl
          rotate_left
          · simp only [Act.put, List.setIfInBounds_toArray, List.set_cons_zero, List.set_cons_succ, i64_w, i32_w]
            rfl
          refine pure_ (i := 14) (N := some 52) (v := ?_) (a' := ?_) #[true, true, true, true, true, true, true, true, true, true, true, false, true, true, true, false, false, false, false, false, false, false] rfl rfl (by kernel_rfl) (fun _ _ _ h => h) (Or.inl ⟨by rfl, ?_⟩) ?_ ?_
          rotate_left
          · intro w'
            go_simp
            with_reducible rfl
          rotate_left
          · simp only [Act.put, List.setIfInBounds_toArray, List.set_cons_zero, List.set_cons_succ, i64_w, i32_w]
            rfl
          refine pure_ (i := 15) (N := some 53) (v := ?_) (a' := ?_) #[true, true, true, true, true, true, true, true, true, true, true, false, true, true, true, true, false, false, false, false, false, false] rfl rfl (by kernel_rfl) (fun _ _ _ h => h) (Or.inl ⟨by rfl, ?_⟩) ?_ ?_
          rotate_left
          · intro w'
            go_simp
            with_reducible rfl
          rotate_left
          · simp only [Act.put, List.setIfInBounds_toArray, List.set_cons_zero, List.set_cons_succ, i64_w, i32_w]
            rfl
          refine pure_ (i := 16) (N := some 54) (v := ?_) (a' := ?_) #[true, true, true, true, true, true, true, true, true, true, true, false, true, true, true, true, true, false, false, false, false, false] rfl rfl (by kernel_rfl) (fun _ _ _ h => h) (Or.inl ⟨by rfl, ?_⟩) ?_ ?_
          rotate_left
          · intro w'
            go_simp
            with_reducible rfl
          rotate_left
          · simp only [Act.put, List.setIfInBounds_toArray, List.set_cons_zero, List.set_cons_succ, i64_w, i32_w]
            rfl
          refine take_ (i := 17) (N := some 55) (v := ?_) (a' := ?_) #[true, true, true, true, true, true, true, true, true, true, true, false, true, true, true, true, true, true, false, false, false, false] rfl rfl (by kernel_rfl) (fun _ _ _ h => h) (Or.inl ⟨by rfl, ?_⟩) hHeld ?_ ?_
          rotate_left
          · rintro w' hS
            have y1 := Hn1.out w' hS
            go_simp
            with_reducible rfl
          rotate_left
          · simp only [Act.put, List.setIfInBounds_toArray, List.set_cons_zero, List.set_cons_succ, i64_w, i32_w]
            rfl
          refine pure_ (i := 18) (N := some 56) (v := ?_) (a' := ?_) #[true, true, true, true, true, true, true, true, true, true, true, false, true, true, true, true, true, true, true, false, false, false] rfl rfl (by kernel_rfl) (fun _ _ _ h => h) (Or.inl ⟨by rfl, ?_⟩) ?_ ?_
          rotate_left
          · intro w'
            go_simp
            with_reducible rfl
          rotate_left
          · simp only [Act.put, List.setIfInBounds_toArray, List.set_cons_zero, List.set_cons_succ, i64_w, i32_w]
            rfl
          refine join_ (σ := Nat × Option Addr × Nat) 1 #[true, true, true, true, true, true, true, true, true, true, true, true, true, true, true, true, true, true, true, true, true, false] (fun s => [(49, .slice s.2.1 64 s.2.2), (57, .agg #[.int .i64 (x.1 : Int), .slice s.2.1 64 s.2.2, .int .u16 0]), (12, .pointer (some ⟨s.1, 0, none⟩))]) (fun s w' => w'.heap[s.1]? = some (.cells #[.int .i64 0, .slice none 0 0, .int .u16 0] 50 (0, 0)) ∧ Kd.R (Kd.int .u8) 5 w' wr.heap.size (fun _ => True) (.slice s.2.1 64 s.2.2) x.2 ∧ Below wr.heap.size wr w' ∧ wr.heap.size ≤ s.1 ∧ 64 ≤ s.2.2) ?_ ?_
          rotate_left
          · intro hCont
            refine two_ (i := 11) (j := 20) (Ni := some 49) (Nj := some 12) #[true, true, true, true, true, true, true, true, true, true, true, true, true, true, true, true, true, true, true, false, false, false] #[true, true, true, true, true, true, true, true, true, true, true, false, true, true, true, true, true, true, true, false, true, false] rfl rfl rfl rfl (by kernel_rfl) (by decide) (by decide) (fun K hK => ?_) (fun K hK => ?_)
            · skip
              refine goes_ Try.func41 (by kernel_rfl) rfl #[.pointer (some ⟨gj, 0, none⟩), .int .i64 (3 + (k : Int))] (by rfl) rfl rfl (by (try simp only [List.map_toArray, List.map_cons, List.map_nil]); first | done | rfl) ?_
              with_reducible refine (jreadI B gj gd gs seq D (3 + k) (3 + (k : Int)) wr.drew (by omega) (HJ2.out.below hHeld) (HD2.out.below hHeld) Hdead.out (by omega)).mono ?_
              rintro e w3 ⟨v3, rfl, hR3, hB3⟩
              obtain ⟨A3, c3, rfl, hc3, _⟩ := Kd.R_reads hR3
              rw [Hsec.out, Hxl.out] at hR3 hc3
              rw [Hsec.out, Hxl.out]
              have HR3 := Lib.hid hR3
              have HB3 := Lib.hid hB3
              have Hc3 := Lib.hid hc3
              clear hR3 hB3 hc3
              refine ⟨_, rfl, ?_⟩
              refine hK.out _ _ (below_step hHeld HB3.out) (fun hHeld => ?_)
              clear hK K
              refine norm_ (a' := ?_) ?_ ?_
              rotate_left
              · show Act.put _ (some 49) _ = _
                simp only [Act.put, List.setIfInBounds_toArray, List.set_cons_zero, List.set_cons_succ, i64_w, i32_w]
                rfl
              refine pure_ (i := 19) (N := some 57) (v := .agg #[.int .i64 (x.1 : Int), .slice A3 64 c3, .int .u16 0]) (a' := ?_) #[true, true, true, true, true, true, true, true, true, true, true, true, true, true, true, true, true, true, true, true, false, false] rfl rfl (by kernel_rfl) (fun _ _ _ h => h) (yields_build (by rfl) 50 #[(0, .tmp 43), (1, .tmp 49), (2, .tmp 56)] rfl _ #[.int .i64 (x.1 : Int), .slice A3 64 c3, .int .u16 0] (by simp only [List.map_toArray, List.map_cons, List.map_nil]; rfl) (built_patch3 _ _ _ _)) ?_ ?_
              rotate_left
              · simp only [Act.put, List.setIfInBounds_toArray, List.set_cons_zero, List.set_cons_succ, i64_w, i32_w]
                rfl
              refine one_ (i := 20) (N := some 12) #[true, true, true, true, true, true, true, true, true, true, true, true, true, true, true, true, true, true, true, true, true, false] rfl rfl (by kernel_rfl) (by decide) (fun K hK => ?_)
              refine value_ (by rfl) rfl (run_exec_alloc rfl _) ?_
              refine hK.out _ _ (below_alloc hHeld _) (fun hHeld => ?_)
              clear hK K
              refine norm_ (a' := ?_) ?_ ?_
              rotate_left
              · show Act.put _ (some 12) _ = _
                simp only [Act.put, List.setIfInBounds_toArray, List.set_cons_zero, List.set_cons_succ, i64_w, i32_w]
                rfl
              exact norm_ (by first | (simp only [putAll, Act.put, List.setIfInBounds_toArray, List.set_cons_zero, List.set_cons_succ]; done) | (simp only [putAll, Act.put, List.setIfInBounds_toArray, List.set_cons_zero, List.set_cons_succ]; rfl)) (hCont ⟨w3.heap.size, A3, c3⟩ _ ⟨blk_new _ _, Kd.R_alloc HR3.out _, hHeld, HB3.out.size, Hc3.out⟩)
            · skip
              refine value_ (by rfl) rfl (run_exec_alloc rfl _) ?_
              refine hK.out _ _ (below_alloc hHeld _) (fun hHeld => ?_)
              clear hK K
              refine norm_ (a' := ?_) ?_ ?_
              rotate_left
              · show Act.put _ (some 12) _ = _
                simp only [Act.put, List.setIfInBounds_toArray, List.set_cons_zero, List.set_cons_succ, i64_w, i32_w]
                rfl
              refine one_ (i := 11) (N := some 49) #[true, true, true, true, true, true, true, true, true, true, true, true, true, true, true, true, true, true, true, false, true, false] rfl rfl (by kernel_rfl) (by decide) (fun K hK => ?_)
              refine goes_ Try.func41 (by kernel_rfl) rfl #[.pointer (some ⟨gj, 0, none⟩), .int .i64 (3 + (k : Int))] (by rfl) rfl rfl (by (try simp only [List.map_toArray, List.map_cons, List.map_nil]); first | done | rfl) ?_
              with_reducible refine (jreadI B gj gd gs seq D (3 + k) (3 + (k : Int)) (wr.drew.alloc (Obj.cells #[.int .i64 0, .slice none 0 0, .int .u16 0] 50)) (by omega) (HJ2.out.below hHeld) (HD2.out.below hHeld) Hdead.out (by omega)).mono ?_
              rintro e w3 ⟨v3, rfl, hR3, hB3⟩
              obtain ⟨A3, c3, rfl, hc3, _⟩ := Kd.R_reads hR3
              rw [Hsec.out, Hxl.out] at hR3 hc3
              rw [Hsec.out, Hxl.out]
              have HR3 := Lib.hid hR3
              have HB3 := Lib.hid hB3
              have Hc3 := Lib.hid hc3
              clear hR3 hB3 hc3
              refine ⟨_, rfl, ?_⟩
              refine hK.out _ _ (below_step hHeld HB3.out) (fun hHeld => ?_)
              clear hK K
              refine norm_ (a' := ?_) ?_ ?_
              rotate_left
              · show Act.put _ (some 49) _ = _
                simp only [Act.put, List.setIfInBounds_toArray, List.set_cons_zero, List.set_cons_succ, i64_w, i32_w]
                rfl
              refine pure_ (i := 19) (N := some 57) (v := .agg #[.int .i64 (x.1 : Int), .slice A3 64 c3, .int .u16 0]) (a' := ?_) #[true, true, true, true, true, true, true, true, true, true, true, true, true, true, true, true, true, true, true, true, true, false] rfl rfl (by kernel_rfl) (fun _ _ _ h => h) (yields_build (by rfl) 50 #[(0, .tmp 43), (1, .tmp 49), (2, .tmp 56)] rfl _ #[.int .i64 (x.1 : Int), .slice A3 64 c3, .int .u16 0] (by simp only [List.map_toArray, List.map_cons, List.map_nil]; rfl) (built_patch3 _ _ _ _)) ?_ ?_
              rotate_left
              · simp only [Act.put, List.setIfInBounds_toArray, List.set_cons_zero, List.set_cons_succ, i64_w, i32_w]
                rfl
              exact norm_ (by first | (simp only [putAll, Act.put, List.setIfInBounds_toArray, List.set_cons_zero, List.set_cons_succ]; done) | (simp only [putAll, Act.put, List.setIfInBounds_toArray, List.set_cons_zero, List.set_cons_succ]; rfl)) (hCont ⟨wr.heap.size, A3, c3⟩ _ ⟨blk_below (blk_new wr.drew _) HB3.out, Kd.R_lower HR3.out (by simp), hHeld, Nat.le_refl _, Hc3.out⟩)
          · rintro ⟨b, A3, c3⟩ w3 ⟨hb3, hR3, hB3, hb, hc3⟩
            simp only at hb3 hR3 hb hc3
            refine norm_ (a' := ?_) ?_ ?_
            rotate_left
            · simp only [putAll, Act.put, List.setIfInBounds_toArray, List.set_cons_zero, List.set_cons_succ]
              rfl
            refine last_ (i := 21) (N := none) #[true, true, true, true, true, true, true, true, true, true, true, true, true, true, true, true, true, true, true, true, true, true] rfl rfl (by kernel_rfl) (by decide) (fun K hK => ?_)
            refine skip_ (by rfl) rfl (run_exec_store rfl rfl rfl (store_row (W := w3) (ty := 50) (cells := #[.int .i64 (x.1 : Int), .slice A3 64 c3, .int .u16 0]) hb3 (by rw [sz_patch]; rfl) rfl (by simp [Value.oneCell']))) ?_
            refine hK.out _ _ ?_
            clear hK K
            refine done_ (by kernel_rfl) ?_
            clear d1 s1 s2 s3 s4 s5 s6 s7 t1 t2 b1 b2 b3 b4 hcv
            obtain ⟨w4, hw4⟩ : ∃ w4, w3.setRow b #[.int .i64 (x.1 : Int), .slice A3 64 c3, .int .u16 0] = w4 := ⟨_, rfl⟩
            have hb4 : w4.heap[b]? = some (.cells #[.int .i64 (x.1 : Int), .slice A3 64 c3, .int .u16 0] 50 (0, 0)) := by rw [← hw4]; exact setRow_heap _ _ _ _ _ _ hb3
            have hB4 : Below wr.heap.size wr w4 := by rw [← hw4]; exact below_setRow hB3 hb _
            have hR4 : Kd.R (Kd.int .u8) 5 w4 wr.heap.size (fun _ => True) (.slice A3 64 c3) x.2 := by
              rw [← hw4]
              have h1 := Kd.R_types hR3 hb3 (fun q hq => by simp [Kd.int, Kd.scalar] at hq; subst hq; decide)
              exact Kd.R_mono (Kd.R_kept h1 (S := fun k => k = b) ⟨by simp, fun k _ hk => setRow_other _ _ _ _ hk⟩ (fun k hk => hk.2)) (fun _ _ => trivial)
            rw [hw4]
            have Hb4 := Lib.hid hb4
            have HB4 := Lib.hid hB4
            have HR4 := Lib.hid hR4
            have Hc3 := Lib.hid hc3
            clear hw4 hb3 hR3 hB3 hb hc3 hb4 hB4 hR4
            have c0 : w4.cell? ⟨b, 0, none⟩ = some (.int .i64 (x.1 : Int)) := blk_cell Hb4.out 0
            go_wp2_with fail
            refine (outside_any B gj gd gs seq D (x.1 : Int) w4 (HJ2.out.below HB4.out) (HD2.out.below HB4.out) Hxa.out.1 Hxa.out.2).mono ?_
            rintro e w5 ⟨rfl, hB5⟩
            clear c0
            have hb5 := blk_below Hb4.out hB5
            have hB5' := below_step HB4.out hB5
            have hR5 := Kd.R_below HR4.out hB5
            have hload := Lib.hid (run_loadAt_mid (P := Try.prog) w5 b 0 50 [.int .i64 (x.1 : Int), .slice A3 64 c3, .int .u16 0] _ (fun j v hj => by rw [Nat.zero_add, blk_cell hb5]; simpa using hj) Try.underlying50 rfl (by rw [sz_patch]; rfl))
            have hRr := Kd.R_below hR.out hB5'
            obtain ⟨v7, w7, hap, hR7, hg7⟩ := RP_plain.append (w5.alloc (.cells #[.int .i64 (x.1 : Int), .slice A3 64 c3, .int .u16 0] 50)) wn.heap.size 43 43 50 _ 40 Try.underlying43 info_patch rfl (by decide) u6 rows [(x.1, A3, c3)] (Kd.R_alloc hRr _) (some ⟨w5.heap.size, 0, none⟩) 1 1 (by decide) (C_flat1 (enc := rawC) (blk_new w5 _) rfl) (by have := Hrl.out; omega) (by have := Hrl.out; unfold maxLen; omega) (by have h1 := hB.out.size; have h2 := hB5'.size; simp; omega)
            have hB7 : Below wn.heap.size wn w7 := pw_below_grown (below_alloc (below_step hB.out hB5') _) _ (below_size (below_alloc (below_step hB.out hB5') _)) hg7 (fun k hk => R_base' hRr k hk)
            have hS7 : Says w7 (okT wn.heap.size w7) (rows ++ [(x.1, A3, c3)]) (xs.take (k + 1)) := by
              rw [Htk.out]
              have hty : ∀ (W : World), Below w5.heap.size w5 W → W = w5.alloc (Obj.cells #[.int .i64 (x.1 : Int), .slice A3 64 c3, .int .u16 0] 50) → ∀ (k : Nat) (cells : Array Value), W.heap[k]? = some (Obj.cells cells 5 (0, 0)) → w7.heap[k]? = W.heap[k]? := by
                intro W _ hW k cells hk
                subst hW
                exact hg7.block k (blk_lt hk) (Kd.R_ne (Kd.R_alloc hRr _) hk (by decide))
              have hstep : ∀ (k : Nat) (cells : Array Value), w5.heap[k]? = some (Obj.cells cells 5 (0, 0)) → w7.heap[k]? = w5.heap[k]? := by
                intro k cells hk
                have h1 := blk_alloc hk (Obj.cells #[.int .i64 (x.1 : Int), .slice A3 64 c3, .int .u16 0] 50)
                rw [hty _ (below_alloc (Below.refl _ _) _) rfl k cells h1, h1, hk]
              have hS5 : Says w5 (okT wn.heap.size w5) rows (xs.take k) := hS.out.typed (fun k cells _ hk => hB5'.block k (blk_lt hk))
              refine (hS5.typed (fun k cells _ hk => hstep k cells hk)).append ?_
              have hbd := Kd.R_bound hR5
              refine Says.one rfl Hxl.out Hc3.out (Kd.F_mono (Kd.F_step (Kd.R_F hbd) (fun k hk hlt => ?_)) (fun k hk => ?_))
              · obtain ⟨_, _, _, q, hq, cells, hc⟩ := hk
                have : q = 5 := by simpa [Kd.int, Kd.scalar] using hq
                subst this
                exact hstep k cells hc
              · obtain ⟨_, h2, _, q, hq, cells, hc⟩ := hk
                have : q = 5 := by simpa [Kd.int, Kd.scalar] using hq
                subst this
                exact ⟨Nat.le_trans hB.out.size h2, cells, (hstep k cells hc).trans hc⟩
            have Hap := Lib.hid hap
            have HR7 := Lib.hid hR7
            have HB7 := Lib.hid hB7
            have HS7 := Lib.hid hS7
            clear hap hR7 hg7 hB7 hS7 hRr hR5 hB5' hb5 hB5
            go_wp2_with (first | ((with_reducible refine gate_load 50 (.tmp 12) rfl ?_); refine wpList_load_eq rfl _ _ rfl _ _ rfl hload.out ?_) | ((with_reducible refine gate_builtin (b := .append) (xs := #[.tmp 63, .tmp 65]) rfl ?_); at_builtin; refine wpList_append_eq rfl (.tmp 63) (.tmp 65) 43 rfl _ _ _ rfl rfl Hap.out ?_))
            go_roundg q
            case measure => omega
            case rel => exact ⟨k + 1, _, by omega, by go_num, HR7, HS7, HB7⟩
    · obtain ⟨A, cap, rows, rfl, hcap, hR, hS, hB⟩ := hO.out
      have HR := Lib.hid hR
      have HS := Lib.hid hS
      have HB := Lib.hid hB
      have d1 : decide ((9 : Int) < 9) = false := rfl
      clear hR hS hB hO
      go_wp2_with fail
      go_ret2
      exact ⟨A, cap, rfl, hcap, Kd.F_mono (F_of_raw (Kd.R_bound HR.out) HS.out) (fun k hk => hk.elim (fun h => h.1) (fun h => h.2.1)), HB.out⟩
end Go.Proofs.Ytpbijdalfeaheaa.Tf

/- journal: Open. -/
namespace Go.Proofs.Ytpbijdalfeaheaa.Tf
open Go.RowKit Go.Proofs.YtpbijdalfeaheaaW.PrintWords Go.Proofs.YtpbijdalfeaheaaW.PrintLast Go.Proofs.YtpbijdalfeaheaaW.PrintMore
set_option linter.unusedVariables false
set_option linter.unusedSimpArgs false
theorem readN (B gd gs : Nat) (D : Dk) (n : Nat) (i : Int) (w : World) (hi : i = (n : Int)) (h : DiskAt w B gd gs D) (hd : D.dead = false) (hn : n < 88) :
    Calls Try.prog 13 #[.pointer (some ⟨gd, 0, none⟩), .int .i64 i] w fun e w' => ∃ v, e = .returned (.tuple #[v, .int .i64 0]) ∧ Kd.R (Kd.int .u8) 5 w' w.heap.size (fun _ => True) v (D.secs.getD n []) ∧ Below w.heap.size w w' := by
  subst hi; exact read_yes B gd gs D n w h hd hn
/-- What a head without a count says. -/
def Begins (gd : Nat) (s : List Int) (seq : Int) : Prop :=
  ∀ (w : World) (gj : Nat) (A : Option Addr) (c : Nat), JAt w gj gd 0 → Kd.C (Kd.int .u8) w A 64 s → 64 ≤ c →
    Calls Try.prog 20 #[.pointer (some ⟨gj, 0, none⟩), .slice A 64 c] w fun e w' => e = .returned (.tuple #[.int .i64 0, .bool true]) ∧ JAt w' gj gd seq ∧ Fr (fun k => k = gj) w w'
theorem begins_zero (gd : Nat) : Begins gd zeroB 0 := fun w gj A c hJ hC _ => (begin_zero gj gd 0 A c w hJ hC).mono (fun e w' ⟨h1, h2⟩ => ⟨h1, hJ.below h2, Fr.of_below h2 _⟩)
theorem begins_head (gd : Nat) (seq : Int) (h : 0 < seq ∧ seq < 256) : Begins gd (headB seq 0) seq := fun w gj A c hJ hC hc => begin_head gj gd 0 seq 0 A c w hJ hC hc h (by omega)
set_option maxHeartbeats 8000000 in
set_option maxRecDepth 100000 in
theorem open_plain (B gd gs : Nat) (D : Dk) (s : List Int) (seq : Int) (w : World) (hD : DiskAt w B gd gs D) (hd : D.dead = false) (hw : D.waits = []) (hB : B ≤ w.heap.size) (hs : D.secs.getD 1 [] = s) (hsl : s.length = 64) (hb : Begins gd s seq) :
    Calls Try.prog 6 #[.pointer (some ⟨gd, 0, none⟩), .int .i64 1, .int .i64 30] w fun e w' => ∃ gj, e = .returned (.tuple #[.pointer (some ⟨gj, 0, none⟩), .int .i64 0, .int .i64 0]) ∧ w.heap.size ≤ gj ∧ JAt w' gj gd seq ∧ Below w.heap.size w w' := by
  have HD := Lib.hid hD
  have HS := Lib.hid hs
  have HSL := Lib.hid hsl
  have Hd := Lib.hid hd
  have HW := Lib.hid hw
  have hlt := hD.lt
  clear hD hs hsl hd hw
  go_enter Try.func6, Try.ntmps6
  go_wp2_with fail
  refine (len_any B gd gs D w HD.out).mono ?_
  rintro e w' ⟨rfl, rfl⟩
  go_wp2_with fail
  refine (len_any B gd gs D w HD.out).mono ?_
  rintro e w' ⟨rfl, rfl⟩
  go_wp2_with fail
  obtain ⟨w1, hw1⟩ : ∃ w1, w.alloc (Obj.cells #[.pointer (some ⟨gd, 0, none⟩), .int .i64 1, .int .i64 30, .int .u64 0] 69) = w1 := ⟨_, rfl⟩
  have hB1 : Below w.heap.size w w1 := by rw [← hw1]; exact below_alloc (Below.refl _ _) _
  have hJ1 : JAt w1 w.heap.size gd 0 := by rw [← hw1]; exact blk_new _ _
  rw [hw1]
  clear hw1
  have HB1 := Lib.hid hB1
  have HJ1 := Lib.hid hJ1
  clear hB1 hJ1
  refine (readN B gd gs D 1 1 w1 rfl (HD.out.below HB1.out) Hd.out (by omega)).mono ?_
  rintro e w2 ⟨v2, rfl, hR2, hB2⟩
  rw [HS.out] at hR2
  obtain ⟨A2, c2, rfl, hc2, hC2⟩ := Kd.R_reads hR2
  rw [HSL.out] at hc2 hC2 ⊢
  have HC2 := Lib.hid hC2
  have HB2 := Lib.hid (below_step HB1.out hB2)
  have HJ2 := Lib.hid (HJ1.out.below hB2)
  clear hR2 hC2 hB2
  go_wp2_with fail
  refine (hb w2 w.heap.size A2 c2 HJ2.out HC2.out hc2).mono ?_
  rintro e w3 ⟨rfl, hJ3, hF3⟩
  have HJ3 := Lib.hid hJ3
  have HB3 := Lib.hid (below_weaken HB2.out (Nat.le_refl _) (hF3.to_below HB2.out.size (fun k hk => by omega)))
  clear hJ3 hF3
  go_wp2_with fail
  go_ret3
  exact ⟨_, rfl, Nat.le_refl _, HJ3.out, HB3.out⟩
/-- All are written. -/
def setAll (S : List (List Int)) (xs : List (Nat × List Int)) : List (List Int) := xs.foldl (fun S x => S.set x.1 x.2) S
theorem writeL_all : ∀ (xs : List (Nat × List Int)) (D : Dk), D.dead = false → D.fuse = -1 → writeL D xs = (true, { secs := setAll D.secs xs, waits := [], dead := false, fuse := -1 }) := by
  intro xs
  induction xs with
  | nil =>
    intro D hd hf
    obtain ⟨a, b, c, d⟩ := D
    simp only at hd hf
    subst hd; subst hf
    rfl
  | cons x xs ih =>
    intro D hd hf
    obtain ⟨a, b, c, d⟩ := D
    simp only at hd hf
    subst hd; subst hf
    have hl : (Dk.mk a b false (-1)).live = true := rfl
    unfold writeL
    rw [if_pos hl, ih _ rfl rfl]
    rfl
/-- What Open leaves that did the patches again. -/
def OpenPost (w : World) (gd gs : Nat) (S : List (List Int)) (e : Ending) (w' : World) : Prop :=
  ∃ gj B', e = .returned (.tuple #[.pointer (some ⟨gj, 0, none⟩), .int .i64 9, .int .i64 0]) ∧ w.heap.size ≤ B' ∧ B' ≤ w'.heap.size ∧ DiskAt w' B' gd gs { secs := S, waits := [], dead := false, fuse := -1 } ∧ Fr (fun k => k = gd ∨ k = gs) w w'
set_option maxHeartbeats 16000000 in
set_option maxRecDepth 100000 in
theorem open_redo (B gd gs : Nat) (D : Dk) (xs : List (Nat × List Int)) (seq : Int) (w : World) (hD : DiskAt w B gd gs D) (hd : D.dead = false) (hfu : D.fuse = -1) (hw : D.waits = []) (hB : B ≤ w.heap.size) (hs : D.secs.getD 1 [] = headB seq 9) (hq : 0 < seq ∧ seq < 256)
    (hx : Nine xs) (hn : xs.length = 9) (h2 : D.secs.getD 2 [] = listB xs) (h3 : ∀ k (hk : k < xs.length), D.secs.getD (3 + k) [] = xs[k].2) :
    Calls Try.prog 6 #[.pointer (some ⟨gd, 0, none⟩), .int .i64 1, .int .i64 30] w (OpenPost w gd gs (setAll (setAll D.secs xs) [(1, headB seq 0)])) := by
  have HD := Lib.hid hD
  have HS := Lib.hid hs
  have Hd := Lib.hid hd
  have Hfu := Lib.hid hfu
  have HW := Lib.hid hw
  have hlt := hD.lt
  have HX := Lib.hid hx
  have HN := Lib.hid hn
  have H2 := Lib.hid h2
  have H3 := Lib.hid h3
  have HQ := Lib.hid hq
  clear hD hs hd hw hfu hx hn h2 h3 hq
  go_enter Try.func6, Try.ntmps6
  go_wp2_with fail
  refine (len_any B gd gs D w HD.out).mono ?_
  rintro e w' ⟨rfl, rfl⟩
  go_wp2_with fail
  refine (len_any B gd gs D w HD.out).mono ?_
  rintro e w' ⟨rfl, rfl⟩
  go_wp2_with fail
  obtain ⟨w1, hw1⟩ : ∃ w1, w.alloc (Obj.cells #[.pointer (some ⟨gd, 0, none⟩), .int .i64 1, .int .i64 30, .int .u64 0] 69) = w1 := ⟨_, rfl⟩
  have hB1 : Below w.heap.size w w1 := by rw [← hw1]; exact below_alloc (Below.refl _ _) _
  have hJ1 : JAt w1 w.heap.size gd 0 := by rw [← hw1]; exact blk_new _ _
  rw [hw1]
  clear hw1
  have HB1 := Lib.hid hB1
  have HJ1 := Lib.hid hJ1
  clear hB1 hJ1
  refine (readN B gd gs D 1 1 w1 rfl (HD.out.below HB1.out) Hd.out (by omega)).mono ?_
  rintro e w2 ⟨v2, rfl, hR2, hB2⟩
  rw [HS.out] at hR2
  obtain ⟨A2, c2, rfl, hc2, hC2⟩ := Kd.R_reads hR2
  rw [headB_len] at hc2 hC2 ⊢
  have HC2 := Lib.hid hC2
  have HB2 := Lib.hid (below_step HB1.out hB2)
  have HJ2 := Lib.hid (HJ1.out.below hB2)
  clear hR2 hC2 hB2
  go_wp2_with fail
  refine (begin_head w.heap.size gd 0 seq 9 A2 c2 w2 HJ2.out HC2.out hc2 HQ.out (by omega)).mono ?_
  rintro e w3 ⟨rfl, hJ3, hF3⟩
  have HJ3 := Lib.hid hJ3
  have HB3 := Lib.hid (below_weaken HB2.out (Nat.le_refl _) (hF3.to_below HB2.out.size (fun k hk => by omega)))
  clear hJ3 hF3
  go_wp2_with fail
  refine (laid_any B w.heap.size gd gs seq D xs w3 HJ3.out (HD.out.below HB3.out) Hd.out HX.out HN.out H2.out H3.out).mono ?_
  rintro e w4 ⟨A4, c4, rfl, hc4, hF4, hB4⟩
  have HF4 := Lib.hid hF4
  have HB4 := Lib.hid (below_step HB3.out hB4)
  have HJ4 := Lib.hid (HJ3.out.below hB4)
  have x3 := HJ4.out.seq
  have hs34 := hB4.size
  clear hF4 hB4
  go_wp2_with fail
  refine (head_any w.heap.size gd seq seq 0 w4 HJ4.out (by have := HQ.out; omega) (by omega)).mono ?_
  rintro e w5 ⟨ad5, c5, rfl, hc5, hR5, hB5⟩
  have HR5 := Lib.hid hR5
  have HB5 := Lib.hid hB5
  clear hR5 hB5 x3
  unfold patchV
  go_wp2_with fail
  have hs2 := HB4.out.size
  have hs3 := HB5.out.size
  have hs5 := HB3.out.size
  have hgj := HJ4.out.lt
  obtain ⟨wp, hwp⟩ : ∃ wp, ((w5.alloc (Obj.cells #[.int .i64 1, .slice (some ad5) 64 c5, .int .u16 0] 50)).alloc (Obj.cells #[.slice A4 9 c4, .slice (some ⟨w5.heap.size, 0, none⟩) 1 1] 43)) = wp := ⟨_, rfl⟩
  have hsz : wp.heap.size = w5.heap.size + 2 := by rw [← hwp]; simp
  have hb5 : Below w5.heap.size w5 wp := by rw [← hwp]; exact below_alloc (below_alloc (Below.refl _ _) _) _
  have hbp : Below w.heap.size w wp := below_step (below_step HB4.out HB5.out) hb5
  have hgp : wp.heap[w5.heap.size + 1]? = some (.cells #[.slice A4 9 c4, .slice (some ⟨w5.heap.size, 0, none⟩) 1 1] 43 (0, 0)) := by
    rw [← hwp]
    have := blk_new (w5.alloc (Obj.cells #[.int .i64 1, .slice (some ad5) 64 c5, .int .u16 0] 50)) (.cells #[.slice A4 9 c4, .slice (some ⟨w5.heap.size, 0, none⟩) 1 1] 43)
    simpa using this
  have hP : ∀ p ∈ [Part.mk A4 9 c4 xs, Part.mk (some ⟨w5.heap.size, 0, none⟩) 1 1 [(1, headB seq 0)]], p.Ok wp (fun k => k ≠ gd ∧ k ≠ gs ∧ k < wp.heap.size) := by
    intro p hp
    simp only [List.mem_cons, List.not_mem_nil, or_false] at hp
    rcases hp with rfl | rfl
    · exact ⟨Kd.F_mono (Kd.F_bound (Kd.F_below (Kd.F_below HF4.out HB5.out) hb5)) (fun k hk => ⟨by omega, by omega, hk.2⟩), HX.out.pok, by simp⟩
    · have h4 := F_head HR5.out (headB_len _ _) hc5
      have h5 : Kd.F PK wp (fun k => w4.heap.size ≤ k ∧ k ≤ w5.heap.size) (some ⟨w5.heap.size, 0, none⟩) 1 [(1, headB seq 0)] := by rw [← hwp]; exact Kd.F_alloc h4 _
      refine ⟨Kd.F_mono h5 (fun k hk => ⟨by omega, by omega, by omega⟩), fun x hx => ?_, by simp⟩
      rw [List.mem_singleton.1 hx]; exact ⟨by show (1 : Nat) < 88; decide, headB_len _ _⟩
  rw [hwp]
  obtain ⟨parts, hparts⟩ : ∃ parts, [Part.mk A4 9 c4 xs, Part.mk (some ⟨w5.heap.size, 0, none⟩) 1 1 [(1, headB seq 0)]] = parts := ⟨_, rfl⟩
  rw [hparts] at hP
  have HP := Lib.hid hP
  have hcells : (#[.slice A4 9 c4, .slice (some ⟨w5.heap.size, 0, none⟩) 1 1] : Array Value) = (parts.map Part.val).toArray := by rw [← hparts]; rfl
  have hruns : [xs, [(1, headB seq 0)]] = parts.map Part.xs := by rw [← hparts]; rfl
  have hpl : parts.length = 2 := by rw [← hparts]; rfl
  rw [hcells] at hgp
  have HGP := Lib.hid hgp
  have HRU := Lib.hid hruns
  have HPL := Lib.hid hpl
  have HBP := Lib.hid hbp
  have HSZ := Lib.hid (show w5.heap.size + 1 < wp.heap.size ∧ gd < wp.heap.size ∧ gs < wp.heap.size ∧ w.heap.size < wp.heap.size ∧ gd < w5.heap.size ∧ gs < w5.heap.size ∧ gd < w.heap.size ∧ gs < w.heap.size by omega)
  have HDP := Lib.hid ((HD.out.below hbp).raise HW.out (B' := wp.heap.size) ⟨by omega, by omega⟩)
  have HJP := Lib.hid (show JAt wp w.heap.size gd seq from (HJ4.out.below HB5.out).below hb5)
  clear hP hparts hcells hruns hpl hgp hbp hb5 hwp hs2 hs3 hs5 hgj hsz hs34 hlt
  go_loopg [16, 17, 89] 2 (fun q _ _ i wr => ∃ (k : Nat) (De : Dk), k + q = 2 ∧ i = .int .i64 (k : Int) ∧ Hid (DiskAt wr wp.heap.size gd gs De) ∧ Hid (Fr (DS wp.heap.size gd gs) wp wr) ∧ Hid (setAll (setAll D.secs xs) [(1, headB seq 0)] = ((parts.drop k).map Part.xs).foldl setAll De.secs) ∧ Hid (De.waits = [] ∧ De.dead = false ∧ De.fuse = -1))
  case atStart => exact ⟨0, D, rfl, rfl, HDP, Lib.hid (Fr.refl _ _), Lib.hid (by rw [List.drop_zero, ← HRU.out]; rfl), Lib.hid ⟨HW.out, Hd.out, Hfu.out⟩⟩
  case round =>
    obtain ⟨k, De, hq, rfl, hDe, hFr, hRun, hWn⟩ := hrel
    have hJr : JAt wr w.heap.size gd seq := hFr.out.blk HJP.out (fun h => by
      have := HSZ.out
      rcases h with h | h | h <;> omega)
    cases gk with
    | zero =>
      obtain rfl : k = 2 := by omega
      have e4 : De = { secs := setAll (setAll D.secs xs) [(1, headB seq 0)], waits := [], dead := false, fuse := -1 } := by
        have h1 := hRun.out
        rw [List.drop_of_length_le (by rw [HPL.out]; exact Nat.le_refl _)] at h1
        obtain ⟨a, b, c, d⟩ := De
        obtain ⟨h2, h3, h4⟩ := hWn.out
        simp only at h2 h3 h4
        subst h2; subst h3; subst h4
        rw [h1]; rfl
      have E4 := Lib.hid e4
      clear e4 hJr
      go_wp2_with fail
      go_ret3
      refine ⟨w.heap.size, wp.heap.size, rfl, Nat.le_of_lt HSZ.out.2.2.2.1, hFr.out.size, by rw [← E4.out]; exact hDe.out, (Fr.of_below HBP.out _).then_ hFr.out (fun k hk => ?_)⟩
      rcases hk with h | h | h
      · exact .inl (.inl h)
      · exact .inl (.inr h)
      · exact .inr (by have := HSZ.out; omega)
    | succ q =>
      have d1 : decide ((k : Int) < 2) = true := decide_eq_true (by omega)
      have q0 : 0 ≤ (k : Int) := by omega
      have q1 : (k : Int) < 2 := by omega
      have hkl : k < parts.length := by rw [HPL.out]; omega
      obtain ⟨p, hp⟩ : ∃ p, parts[k] = p := ⟨_, rfl⟩
      have hpok := HP.out p (by rw [← hp]; exact List.getElem_mem hkl)
      have hgr := hFr.out.blk HGP.out (fun h => by
        have := HSZ.out
        rcases h with h | h | h <;> omega)
      have xk : wr.cell? ⟨w5.heap.size + 1, k, none⟩ = some (.slice p.A p.n p.c) := by
        rw [blk_cell hgr k]
        simp [hkl, hp, Part.val]
      have hRk : setAll (setAll D.secs xs) [(1, headB seq 0)] = ((parts.drop (k + 1)).map Part.xs).foldl setAll (setAll De.secs p.xs) := by rw [hRun.out, List.drop_eq_getElem_cons hkl, hp]; rfl
      obtain ⟨pA, pn, pc, px⟩ := p
      have hjw := jwrite_any wp.heap.size w.heap.size gd gs seq De pA pn pc px (fun k => k ≠ gd ∧ k ≠ gs ∧ k < wp.heap.size) wr hJr (fun h => by
        have := HSZ.out
        rcases h with h | h | h <;> omega) hDe.out hFr.out.size (Kd.F_kept hpok.1 hFr.out.kept (fun k hk h => by rcases h with h | h | h; exact hk.1 h; exact hk.2.1 h; omega)) (fun k hk h => by rcases h with h | h | h; exact hk.1 h; exact hk.2.1 h; omega) hpok.2.1 (by have h1 := hpok.2.2; rw [hWn.out.1]; simp only at h1; simp; omega)
      rw [writeL_all px De hWn.out.2.1 hWn.out.2.2] at hjw
      have HJW := Lib.hid hjw
      have HRk := Lib.hid hRk
      clear hjw hRk hgr hpok hp hkl hJr
      go_wp2_with fail
      refine HJW.out.mono ?_
      rintro e w9 ⟨he, hD9, hF9⟩
      have he2 : e = .returned (.int .i64 0) := he
      clear he
      subst he2
      have HD9 := Lib.hid hD9
      have HF9 := Lib.hid (hFr.out.trans hF9)
      clear hD9 hF9 HJW
      go_wp2_with fail
      go_roundg q
      case measure => omega
      case rel => exact ⟨k + 1, _, by omega, by go_num, HD9, HF9, HRk, Lib.hid ⟨rfl, rfl, rfl⟩⟩
end Go.Proofs.Ytpbijdalfeaheaa.Tf
