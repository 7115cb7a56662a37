/- Walks and plain laws on which the claim stands, several texts joined. -/
import Derived.Test.YtpbijdalfeaheaaM4

/- journal: lay. -/
namespace Go.Proofs.Ytpbijdalfeaheaa.Tf
open Go.RowKit Go.Proofs.YtpbijdalfeaheaaW.PrintWords Go.Proofs.YtpbijdalfeaheaaW.PrintLast Go.Proofs.YtpbijdalfeaheaaW.PrintMore
set_option linter.unusedVariables false
set_option linter.unusedSimpArgs false
/-- The numbers of a list's sector. -/
def numsL (xs : List (Nat × List Int)) : List Int := xs.flatMap fun x => [(x.1 : Int), 0]
theorem numsL_len (xs : List (Nat × List Int)) : (numsL xs).length = 2 * xs.length := by
  induction xs with
  | nil => rfl
  | cons x xs ih => simp only [numsL, List.flatMap_cons, List.length_append, List.length_cons, List.length_nil] at ih ⊢; omega
theorem numsL_snoc {xs : List (Nat × List Int)} {k : Nat} (hk : k < xs.length) : numsL (xs.take (k + 1)) = numsL (xs.take k) ++ [(xs[k].1 : Int), 0] := by
  rw [numsL, List.take_succ_eq_append_getElem hk, List.flatMap_append]; rfl
theorem numsL_range {xs : List (Nat × List Int)} (h : ∀ x ∈ xs, Pok x) : ∀ n ∈ numsL xs, 0 ≤ n ∧ n < 256 ^ 2 := by
  intro n hn
  obtain ⟨x, hx, hn⟩ := List.mem_flatMap.1 hn
  have := (h x hx).1
  simp only [List.mem_cons, List.not_mem_nil, or_false] at hn
  rcases hn with hn | hn <;> rw [hn] <;> omega
/-- The sector that names them. -/
def listB (xs : List (Nat × List Int)) : List Int := layL 2 (numsL xs) ++ List.replicate (64 - 4 * xs.length) 0
theorem listB_len {xs : List (Nat × List Int)} (h : xs.length ≤ 15) : (listB xs).length = 64 := by
  rw [listB, List.length_append, layL_len, numsL_len, List.length_replicate]; omega
/-- The first k of them have sectors of the journal's. -/
def setk (ys : List (Nat × List Int)) (k : Nat) : List (Nat × List Int) := ((ys.take k).zipIdx).map (fun x => (2 + x.2, x.1.2)) ++ ys.drop k
theorem setk_len (ys : List (Nat × List Int)) (k : Nat) : (setk ys k).length = ys.length := by simp [setk]; omega
theorem setk_zero (ys : List (Nat × List Int)) : setk ys 0 = ys := by simp [setk]
theorem setk_succ {ys : List (Nat × List Int)} {k : Nat} (hk : k < ys.length) (hk' : k < (setk ys k).length) : (setk ys k).set k (2 + k, (setk ys k)[k].2) = setk ys (k + 1) := by
  have hl : (((ys.take k).zipIdx).map (fun x : (Nat × List Int) × Nat => (2 + x.2, x.1.2))).length = k := by simp; omega
  have hg : (setk ys k)[k] = ys[k] := by
    have h1 : (setk ys k)[k]? = some ys[k] := by
      unfold setk
      rw [List.getElem?_append_right (by omega), hl, Nat.sub_self, List.getElem?_drop, Nat.add_zero, List.getElem?_eq_getElem hk]
    rw [List.getElem?_eq_getElem hk'] at h1
    injection h1
  rw [hg]
  unfold setk
  rw [List.set_append_right _ _ (by omega), hl, Nat.sub_self, List.drop_eq_getElem_cons hk, List.set_cons_zero, List.take_succ_eq_append_getElem hk, List.zipIdx_append, List.map_append, List.append_assoc]
  simp
  omega
/-- What is laid: the list's sector, and the patches. -/
def laidL (xs : List (Nat × List Int)) : List (Nat × List Int) := setk ((0, listB xs) :: xs) (xs.length + 1)
/-- What the first loop leaves. -/
def LayOut (w0 : World) (ok : Nat → Prop) (xs : List (Nat × List Int)) (v5 : Value) (wr : World) : Prop :=
  ∃ (wx : World) (g cap : Nat) (rows : List Raw), v5 = .slice (some ⟨g, 0, none⟩) 10 cap ∧ 10 ≤ cap ∧ RP.R 50 wr wx.heap.size (fun _ => True) v5 rows ∧
    Says wx (fun k => (ok k ∧ k < w0.heap.size) ∨ w0.heap.size ≤ k) rows ((0, listB xs) :: xs) ∧ Below wx.heap.size wx wr ∧ Below w0.heap.size w0 wr ∧ w0.heap.size ≤ wx.heap.size
theorem layN (size n : Nat) (A0 : Option Addr) (c0 : Nat) (l : List Int) (w : World) (hln : l.length = n) (h1 : 1 ≤ size) (h8 : size ≤ 8) (hl : size * n ≤ 4096) (hr : Kd.C (Kd.int .u64) w A0 n l) (hn : ∀ n ∈ l, 0 ≤ n ∧ n < 256 ^ size) :
    Calls Try.prog 42 #[.int .i64 size, .slice A0 n c0] w fun e w' => ∃ v, e = .returned (.tuple #[v, .int .i64 0]) ∧ Kd.R (Kd.int .u8) 5 w' w.heap.size (fun _ => True) v (layL size l) ∧ Below w.heap.size w w' := by
  subst hln; exact lay_any size A0 c0 l w h1 h8 hl hr hn
set_option maxHeartbeats 8000000 in
set_option maxRecDepth 100000 in
theorem jlay_any (gj gd : Nat) (sq : Int) (ad : Addr) (c : Nat) (xs : List (Nat × List Int)) (ok : Nat → Prop) (w : World) (hJ : JAt w gj gd sq) (hF : Kd.F PK w ok (some ad) 9 xs) (hx : ∀ x ∈ xs, Pok x) (hc : 9 ≤ c) :
    Calls Try.prog 31 #[.pointer (some ⟨gj, 0, none⟩), .slice (some ad) 9 c] w fun e w' => ∃ A c', e = .returned (.slice A 10 c') ∧ 10 ≤ c' ∧ Kd.F PK w' (fun k => (ok k ∧ k < w.heap.size) ∨ w.heap.size ≤ k) A 10 (laidL xs) ∧ Below w.heap.size w w' := by
  have hn := Kd.F_len hF
  have HJ := Lib.hid hJ
  have HF := Lib.hid hF
  have HX := Lib.hid hx
  have HN := Lib.hid hn
  clear hJ hF hx hn
  obtain ⟨i0, hi0, hz⟩ := Option.map_eq_some_iff.1 info_patch
  simp only [Prod.mk.injEq] at hz
  have hcut : ∀ W : World, (Instr.slice 43 (.slice (some ad) 9 c) (some (.int .i64 0)) (some (.int .i64 9)) none).run Try.prog W = .ok (.slice (some ad) 9 c) W := by
    have h := cut_mid (P := Try.prog) 43 50 .i64 .i64 Try.underlying43 hi0 3 hz.2.1 (some ad) 9 c 0 9 (by omega) (by omega) (by omega) hc
    have e0 : (0 : Int).toNat = 0 := rfl
    have e9 : (9 : Int).toNat = 9 := rfl
    have ea : ad.add (0 * 3) = ad := by rw [Nat.zero_mul]; exact Addr.add_zero' ad
    intro W
    have h2 := h W
    rw [e0, if_neg (by omega), Option.map_some, ea, e9, Nat.sub_zero, Nat.sub_zero] at h2
    exact h2
  have Hcut := Lib.hid hcut
  clear hi0 hz hcut i0
  go_enter Try.func31, Try.ntmps31
  go_wp2_with fail
  go_loopg [5, 6] 1 (fun q v5 v6 wr => (q = 1 ∧ v5 = .slice none 0 0 ∧ v6 = .int .i64 0 ∧ wr = w) ∨ (q = 0 ∧ v6 = .int .i64 15 ∧ Hid (LayOut w ok xs v5 wr)))
  case atStart => exact .inl ⟨rfl, rfl, rfl, rfl⟩
  case round =>
    rcases hrel with ⟨rfl, rfl, rfl, hwr⟩ | ⟨rfl, rfl, hF⟩
    · obtain ⟨w0, hw0⟩ : ∃ w0, w0 = wr := ⟨_, rfl⟩
      rw [← hw0] at hwr ⊢
      subst hwr
      clear hw0
      have hct := Hcut.out
      go_wp2_with fail
      clear hct
      go_loopg [8, 10, 32] 9 (fun q v8 _ i wr => ∃ k, k + q = 9 ∧ i = .int .i64 (k : Int) ∧ Hid (Kd.R (Kd.int .u64) 23 wr w0.heap.size (fun _ => True) v8 (numsL (xs.take k))) ∧ Hid (Below w0.heap.size w0 wr))
      case atStart => exact ⟨0, rfl, rfl, Lib.hid (Kd.R_nil _ _ _ _ _), Lib.hid (Below.refl _ _)⟩
      case round =>
        obtain ⟨k, hq, rfl, hR, hB⟩ := hrel
        cases gk with
        | zero =>
          obtain rfl : k = 9 := by omega
          go_wp2_with fail
          have e9 : xs.take 9 = xs := List.take_of_length_le (by rw [HN.out]; exact Nat.le_refl _)
          rw [e9] at hR
          have hl18 : (numsL xs).length = 18 := by rw [numsL_len, HN.out]
          obtain ⟨A8, c8, rfl, hc8, hC8⟩ := Kd.R_reads hR.out
          rw [hl18] at hc8 hC8 ⊢
          refine (layN 2 18 A8 c8 (numsL xs) wr hl18 (by omega) (by omega) (by omega) hC8 (numsL_range HX.out)).mono ?_
          rintro e w1 ⟨v1, rfl, hR1, hB1⟩
          obtain ⟨A1, c1, rfl, hc1, hC1⟩ := Kd.R_reads hR1
          have hl36 : (layL 2 (numsL xs)).length = 36 := by rw [layL_len, hl18]
          rw [hl36] at hc1 hC1 ⊢
          have HC1 := Lib.hid hC1
          have HB1 := Lib.hid (below_step hB.out hB1)
          have Hl36 := Lib.hid hl36
          clear e9 hl18 hc8 hC8 hR1 hB1 hc1 hC1 hl36 hR
          go_wp2_with fail
          refine (fillN A1 c1 36 _ 64 w1 Hl36.out HC1.out (by omega) (by omega)).mono ?_
          rintro e w3 ⟨v3, rfl, hR3, hB3⟩
          have hX : layL 2 (numsL xs) ++ List.replicate (64 - 36) (0 : Int) = listB xs := by unfold listB; rw [HN.out]
          rw [hX] at hR3
          obtain ⟨A3, c3, rfl, hc3, hC3⟩ := Kd.R_reads hR3
          have hl64 := listB_len (xs := xs) (by rw [HN.out]; decide)
          rw [hl64] at hR3 hc3 ⊢
          have HB3 := Lib.hid (below_step HB1.out hB3)
          have hS1 : Says w3 (fun k => (ok k ∧ k < w0.heap.size) ∨ w0.heap.size ≤ k) [(0, A3, c3)] [(0, listB xs)] :=
            Says.one rfl hl64 hc3 (Kd.F_mono (Kd.R_F (Kd.R_bound hR3)) (fun k hk => .inr (Nat.le_trans HB1.out.size hk.2.1)))
          obtain ⟨rows, hCr, hSr⟩ := raw_of_F (Kd.F_below (Kd.F_bound HF.out) HB3.out) (fun x hx => (HX.out x hx).2)
          have hSS := hS1.append (hSr.mono (fun k hk => .inl hk))
          have hr9 : rows.length = 9 := by rw [hSr.1, HN.out]
          obtain ⟨v4, w4, hap4, hR4, hg4⟩ := RP_plain.append (w3.alloc (.cells #[.int .i64 0, .slice A3 64 c3, .int .u16 0] 50)) w3.heap.size 43 43 50 _ 40 Try.underlying43 info_patch rfl (by decide) (.slice none 0 0) [] [(0, A3, c3)] (Kd.R_nil _ _ _ _ _) (some ⟨w3.heap.size, 0, none⟩) 1 1 (by decide) (C_flat1 (enc := rawC) (blk_new w3 _) rfl) (by decide) (by unfold maxLen; simp) (by simp)
          have hB4 : Below w3.heap.size w3 w4 := pw_below_grown (below_alloc (Below.refl _ _) _) _ (by simp) hg4 (fun k hk => by simp [Value.ownBlock] at hk)
          obtain ⟨v5, w5, hap5, hR5, hg5⟩ := RP_plain.append w4 w3.heap.size 43 43 50 _ 40 Try.underlying43 info_patch rfl (by decide) v4 [(0, A3, c3)] rows hR4 (some ad) 9 c (by decide) (Kd.C_below hCr hB4) (by simp) (by unfold maxLen; simp) hB4.size
          have hB5 : Below w3.heap.size w3 w5 := pw_below_grown hB4 _ hB4.size hg5 (fun k hk => R_base' hR4 k hk)
          have hO : LayOut w0 ok xs v5 w5 := by
            obtain ⟨g, cap, e⟩ := R_some hR5 (by simp)
            have hl10 : ([(0, A3, c3)] ++ rows).length = 10 := by simp [hr9]
            rw [hl10] at e
            obtain ⟨A', c', e', hc', _⟩ := Kd.R_reads hR5
            rw [hl10] at e' hc'
            rw [e] at e'
            simp only [Value.slice.injEq, true_and] at e'
            exact ⟨w3, g, cap, _, e, by rw [e'.2]; exact hc', hR5, hSS, hB5, below_step HB3.out hB5, HB3.out.size⟩
          have HO := Lib.hid hO
          have Hap4 := Lib.hid hap4
          have Hap5 := Lib.hid hap5
          clear hR3 hc3 hC3 hl64 hX hB3 hS1 hCr hSr hSS hr9 hap4 hR4 hg4 hB4 hap5 hR5 hg5 hB5 hO
          go_wp2_with (first | ((with_reducible refine gate_builtin (b := .append) (xs := #[.tmp 56, .tmp 59]) rfl ?_); at_builtin; refine wpList_append_eq rfl (.tmp 56) (.tmp 59) 43 rfl _ _ _ rfl rfl Hap4.out ?_) | ((with_reducible refine gate_builtin (b := .append) (xs := #[.tmp 60, .tmp 61]) rfl ?_); at_builtin; refine wpList_append_eq rfl (.tmp 60) (.tmp 61) 43 rfl _ _ _ rfl rfl Hap5.out ?_))
          go_roundg 0
          case measure => omega
          case rel => exact .inr ⟨rfl, rfl, HO⟩
        | succ q =>
          have d1 : decide ((k : Int) < 9) = true := decide_eq_true (by omega)
          have q0 : 0 ≤ (k : Int) := by omega
          have q1 : (k : Int) < 9 := by omega
          have hkl : k < xs.length := by rw [HN.out]; omega
          obtain ⟨x, hx⟩ : ∃ x, xs[k] = x := ⟨_, rfl⟩
          have Hx := Lib.hid (HX.out x (by rw [← hx]; exact List.getElem_mem hkl))
          have hFk := Kd.F_below HF.out hB.out
          obtain ⟨ad', cs, e, hcl, hFK, hcell, hin⟩ := Kd.F_get hFk x (k : Int) q0 q1
          injection e with e
          subst e
          rw [Int.toNat_natCast] at hcell hFK
          have hgx : xs.getD k x = x := by rw [List.getD_eq_getElem?_getD, List.getElem?_eq_getElem hkl, hx]; rfl
          rw [hgx] at hFK
          obtain ⟨A2, cap, rfl, hcap, hF2⟩ := PK_FK hFK
          rw [Hx.out.2] at hcell
          have hload := Lib.hid (load_any wr (ad.add (k * 3)) 50 [.int .i64 (x.1 : Int), .slice A2 64 cap, .int .u16 0] _ (fun j v hj => by rw [add_add]; exact hcell j v hj) Try.underlying50 rfl (by rw [sz_patch]; rfl))
          have Hsn := Lib.hid (show numsL (xs.take (k + 1)) = numsL (xs.take k) ++ [(x.1 : Int), 0] by rw [numsL_snoc hkl, hx])
          have Hln := Lib.hid (show (numsL (xs.take k)).length ≤ 18 by rw [numsL_len, List.length_take]; omega)
          have Hxa := Lib.hid Hx.out.1
          obtain ⟨w2, hw2⟩ : ∃ w2, (wr.alloc (Obj.cells #[.int .i64 0, .slice none 0 0, .int .u16 0] 50)).setRow wr.heap.size #[.int .i64 (x.1 : Int), .slice A2 64 cap, .int .u16 0] = w2 := ⟨_, rfl⟩
          have hB2 : Below wr.heap.size wr w2 := by rw [← hw2]; exact below_setRow (below_alloc (Below.refl _ _) _) (Nat.le_refl _) _
          have hz2 : w2.heap[wr.heap.size]? = some (.cells #[.int .i64 (x.1 : Int), .slice A2 64 cap, .int .u16 0] 50 (0, 0)) := by rw [← hw2]; exact setRow_heap _ _ _ _ _ _ (blk_new _ _)
          have c0 : w2.cell? ⟨wr.heap.size, 0, none⟩ = some (.int .i64 (x.1 : Int)) := blk_cell hz2 0
          have c2 : w2.cell? ⟨wr.heap.size, 2, none⟩ = some (.int .u16 0) := blk_cell hz2 2
          have hsz2 := hB2.size
          obtain ⟨v4, w4, hap, hR4, hg4⟩ := (plain_int .u64).append (w2.alloc (.cells #[.int .u64 (x.1 : Int), .int .u64 0] 23)) w0.heap.size 105 105 23 (.int .u64 0) 8 Try.underlying105 info_u64 rfl (by decide) u8 (numsL (xs.take k)) [(x.1 : Int), 0] (Kd.R_below hR.out (below_alloc hB2 _)) (some ⟨w2.heap.size, 0, none⟩) 2 2 (by decide) (C_of_blk (k := .u64) (xs := [(x.1 : Int), 0]) (blk_new w2 _) (by simp)) (by have := Hln.out; omega) (by have := Hln.out; unfold maxLen; omega) (by have := hB.out.size; simp; omega)
          have Hap := Lib.hid hap
          have HR4 := Lib.hid (show Kd.R (Kd.int .u64) 23 w4 w0.heap.size (fun _ => True) v4 (numsL (xs.take (k + 1))) by rw [Hsn.out]; exact hR4)
          have HB4 := Lib.hid (pw_below_grown (below_alloc (below_step hB.out hB2) _) _ (below_size (below_alloc (below_step hB.out hB2) _)) hg4 (fun k hk => R_base' hR.out k hk))
          have Hw2 := Lib.hid hw2
          have hcv : IntKind.u64.wrap (x.1 : Int) = (x.1 : Int) := by have := Hxa.out; simp [IntKind.wrap, IntKind.bits, IntKind.signed]; omega
          clear hx hFk hcl hFK hcell hin hgx hcap hF2 hkl hap hR4 hg4 hw2 hB2 hz2 hsz2
          go_wp2_with (first | ((with_reducible refine gate_load 50 (.tmp 34) rfl ?_); refine wpList_load_eq rfl _ _ rfl _ _ rfl hload.out ?_) | ((with_reducible refine gate_store 50 (.tmp 10) (.tmp 35) rfl ?_); refine wpList_store_eq rfl _ _ _ rfl _ _ rfl rfl (store_row (blk_new _ _) (by rw [sz_patch]; rfl) rfl (by simp [Value.oneCell'])) ?_; rw [Hw2.out]) | ((with_reducible refine gate_builtin (b := .append) (xs := #[.tmp 36, .tmp 43]) rfl ?_); at_builtin; refine wpList_append_eq rfl (.tmp 36) (.tmp 43) 105 rfl _ _ _ rfl rfl Hap.out ?_))
          go_roundg q
          case measure => omega
          case rel => exact ⟨k + 1, by omega, by go_num, HR4, HB4⟩
    · have d1 : decide ((15 : Int) < 9) = false := rfl
      obtain ⟨wx, g, cap, rows, rfl, hcap, hR, hS, hBx, hB, hsz⟩ := hF.out
      have HR := Lib.hid hR
      have HS := Lib.hid hS
      have HBx := Lib.hid hBx
      have HB := Lib.hid hB
      have Hsz := Lib.hid hsz
      clear hR hS hBx hB hsz hF
      go_wp2_with fail
      obtain ⟨w5, hw5⟩ : ∃ w5 : World, w5 = wr := ⟨_, rfl⟩
      subst hw5
      go_loopg [15, 65] 10 (fun q _ i wr => ∃ k rws, k + q = 10 ∧ i = .int .i64 (k : Int) ∧ Hid (RP.R 50 wr wx.heap.size (fun _ => True) (.slice (some ⟨g, 0, none⟩) 10 cap) rws) ∧ Hid (Says wx (fun k => (ok k ∧ k < w.heap.size) ∨ w.heap.size ≤ k) rws (setk ((0, listB xs) :: xs) k)) ∧ Hid (Below wx.heap.size wx wr) ∧ Hid (Below w.heap.size w wr))
      case atStart => exact ⟨0, rows, rfl, rfl, HR, Lib.hid (by rw [setk_zero]; exact HS.out), HBx, HB⟩
      case round =>
        clear HR HS HBx HB
        obtain ⟨k, rws, hq, rfl, hR, hS, hBx, hB⟩ := hrel
        have hl10 : ((0, listB xs) :: xs).length = 10 := by simp [HN.out]
        have hr10 : rws.length = 10 := by rw [hS.out.1, setk_len, hl10]
        cases gk with
        | zero =>
          obtain rfl : k = 10 := by omega
          clear hl10 hr10
          go_wp2_with fail
          go_ret
          have hfin : setk ((0, listB xs) :: xs) 10 = laidL xs := by unfold laidL; rw [HN.out]
          have hF := F_of_raw (Kd.R_bound hR.out) (hS.out.step (fun k _ hlt => hBx.out.block k hlt))
          rw [hfin] at hF
          exact ⟨_, _, rfl, hcap, Kd.F_mono hF (fun k hk => hk.elim (fun h => h) (fun h => .inr (Nat.le_trans Hsz.out h.2.1))), hB.out⟩
        | succ q =>
          have d2 : decide ((k : Int) < 10) = true := decide_eq_true (by omega)
          have q0 : 0 ≤ (k : Int) := by omega
          have q1 : (k : Int) < 10 := by omega
          obtain ⟨x0', f0, hRn⟩ := R_put3 hR.out k (2 + k) (by omega)
          obtain ⟨z, x0⟩ : ∃ z : Value, wr.cell? ⟨g, k * 3, none⟩ = some z := ⟨_, x0'⟩
          clear x0'
          have x1 := (show JAt wr gj gd sq from blk_below HJ.out hB.out).from_
          have hk1 : k < ((0, listB xs) :: xs).length := by rw [hl10]; omega
          have hk2 : k < (setk ((0, listB xs) :: xs) k).length := by rw [setk_len]; exact hk1
          have hSn := hS.out.set k (2 + k) hk2 (by rw [hr10]; omega)
          rw [setk_succ hk1 hk2] at hSn
          have hgx : wx.heap.size ≤ g := R_base' hR.out g rfl
          have e2 : ((2 + k : Nat) : Int) = 2 + (k : Int) := by omega
          rw [e2] at hRn
          have HRn := Lib.hid hRn
          have HSn := Lib.hid hSn
          have Hgx := Lib.hid hgx
          clear hRn hSn hgx e2 hl10
          go_wp2_with fail
          go_roundg q
          case measure => omega
          case rel => exact ⟨k + 1, _, by omega, by go_num, HRn, HSn, Lib.hid (hBx.out.setCell (p := ⟨g, k * 3, none⟩) Hgx.out _), Lib.hid (hB.out.setCell (p := ⟨g, k * 3, none⟩) (Nat.le_trans Hsz.out Hgx.out) _)⟩
end Go.Proofs.Ytpbijdalfeaheaa.Tf

/- journal: Commit. -/
namespace Go.Proofs.Ytpbijdalfeaheaa.Tf
open Go.RowKit Go.Proofs.YtpbijdalfeaheaaW.PrintWords Go.Proofs.YtpbijdalfeaheaaW.PrintLast Go.Proofs.YtpbijdalfeaheaaW.PrintMore
set_option linter.unusedVariables false
set_option linter.unusedSimpArgs false
theorem F_of_rawF {W : World} {n : Nat} {ok oke : Nat → Prop} {A : Option Addr} {rows : List Raw} {xs : List (Nat × List Int)} (h : Kd.F RP W oke A n rows) (hs : Says W ok rows xs) : Kd.F PK W (fun k => ok k ∨ oke k) A n xs := by
  intro W' hW
  have hR := h W' (fun k hk hlt => hW k (.inr hk) hlt)
  have hS := hs.step (W1 := W') (fun k hk hlt => hW k (.inl hk) hlt)
  refine ⟨by rw [← hs.1]; exact hR.1, hR.2.1, fun hn => ?_⟩
  obtain ⟨ad, rfl, hc⟩ := hR.2.2 hn
  refine ⟨ad, rfl, fun j x hj => ?_⟩
  have hjl : j < rows.length := by rw [hs.1]; exact (List.getElem?_eq_some_iff.1 hj).1
  obtain ⟨c, hcl, hK, hcc⟩ := hc j _ (List.getElem?_eq_getElem hjl)
  have e : c = rawC rows[j] := hK.1
  subst e
  obtain ⟨a1, a2, a3, a4⟩ := hS.2 j _ _ (List.getElem?_eq_getElem hjl) hj
  refine ⟨_, rfl, ?_, hcc⟩
  unfold rawC
  rw [a1]
  have := PK_mk (W := W') (x := x) (A := rows[j].2.1) (cap := rows[j].2.2) (by rw [a2]; exact a3) (by rw [a2]; exact Kd.F_now a4)
  rw [a2] at this
  exact this
/-- A block of one patch. -/
theorem F_single {W : World} {g : Nat} {ok : Nat → Prop} {A : Option Addr} {c : Nat} {i : Nat} {s : List Int} (hb : W.heap[g]? = some (.cells #[.int .i64 (i : Int), .slice A 64 c, .int .u16 0] 50 (0, 0))) (hs : s.length = 64) (hc : 64 ≤ c) (hF : Kd.F (Kd.int .u8) W ok A 64 s) :
    Kd.F PK W (fun k => ok k ∨ k = g) (some ⟨g, 0, none⟩) 1 [(i, s)] := by
  refine F_of_rawF (rows := [(i, A, c)]) (oke := fun k => k = g) (fun W' hW => ?_) (Says.one rfl hs hc hF)
  have hb' : W'.heap[g]? = some (.cells (rawC (i, A, c)).toArray 50 (0, 0)) := (hW g rfl (blk_lt hb)).trans hb
  exact C_flat1 (enc := rawC) hb' rfl
/-- Lists of writes, one behind the other. -/
def runL : Dk → List (List (Nat × List Int)) → Bool × Dk
  | D, [] => (true, D)
  | D, p :: ps => if (writeL D p).1 then runL (writeL D p).2 ps else (false, (writeL D p).2)
theorem writeL_waits : ∀ (xs : List (Nat × List Int)) (D : Dk), (writeL D xs).1 = true → (writeL D xs).2.waits = [] := by
  intro xs
  induction xs with
  | nil =>
    intro D h
    unfold writeL at h ⊢
    split
    · rfl
    · rename_i hn; rw [if_neg hn] at h; cases h
  | cons x xs ih =>
    intro D h
    unfold writeL at h ⊢
    split
    · rename_i hn; rw [if_pos hn] at h; exact ih _ h
    · rename_i hn; rw [if_neg hn] at h; cases h
structure Part where
  A : Option Addr
  n : Nat
  c : Nat
  xs : List (Nat × List Int)
def Part.val (p : Part) : Value := .slice p.A p.n p.c
def Part.Ok (W : World) (ok : Nat → Prop) (p : Part) : Prop := Kd.F PK W ok p.A p.n p.xs ∧ (∀ x ∈ p.xs, Pok x) ∧ p.n ≤ 15
theorem DiskAt.raise {W : World} {B B' gd gs : Nat} {D : Dk} (h : DiskAt W B gd gs D) (hw : D.waits = []) (hb : gd < B' ∧ gs < B') : DiskAt W B' gd gs D := by
  obtain ⟨vw, done, hb0, hR⟩ := h.hd
  refine ⟨⟨vw, done, hb0, ?_⟩, h.hs, h.len, h.num, h.ne, hb, h.fuse, h.wn⟩
  rw [h.vnil hb0 hw, hw]
  exact Kd.R_nil _ _ _ _ _
end Go.Proofs.Ytpbijdalfeaheaa.Tf

/- journal: Commit. -/
namespace Go.Proofs.Ytpbijdalfeaheaa.Tf
open Go.RowKit Go.Proofs.YtpbijdalfeaheaaW.PrintWords Go.Proofs.YtpbijdalfeaheaaW.PrintLast Go.Proofs.YtpbijdalfeaheaaW.PrintMore
set_option linter.unusedVariables false
set_option linter.unusedSimpArgs false
/-- What Commit writes. -/
def partsL (seq : Int) (xs : List (Nat × List Int)) : List (List (Nat × List Int)) := [laidL xs, [(1, headB (seq + 1) 9)], xs, [(1, headB (seq + 1) 0)]]
/-- The sectors of what is known: nine of them. -/
def Nine (xs : List (Nat × List Int)) : Prop := ∀ x ∈ xs, 31 ≤ x.1 ∧ x.1 < 88 ∧ x.2.length = 64
theorem Nine.pok {xs : List (Nat × List Int)} (h : Nine xs) : ∀ x ∈ xs, Pok x := fun x hx => ⟨(h x hx).2.1, (h x hx).2.2⟩
theorem laidL_pok {xs : List (Nat × List Int)} (h : Nine xs) (hn : xs.length = 9) : ∀ x ∈ laidL xs, Pok x := by
  intro x hx
  unfold laidL setk at hx
  have hl : ((0, listB xs) :: xs).length = xs.length + 1 := rfl
  rw [List.take_of_length_le (by omega), List.drop_of_length_le (by omega), List.append_nil] at hx
  obtain ⟨y, hy, rfl⟩ := List.mem_map.1 hx
  obtain ⟨y1, y2⟩ := y
  obtain ⟨_, hy2, hy3⟩ := List.mem_zipIdx hy
  rw [hl] at hy2
  have h1 : y1 ∈ (0, listB xs) :: xs := by rw [hy3]; exact List.getElem_mem _
  refine ⟨by show 2 + y2 < 88; omega, ?_⟩
  rcases List.mem_cons.1 h1 with h1 | h1
  · show y1.2.length = 64
    rw [h1]; exact listB_len (by omega)
  · exact (h _ h1).2.2
/-- What Commit leaves. -/
def CommitPost (w : World) (gj gd gs : Nat) (seq : Int) (r : Bool × Dk) (e : Ending) (w' : World) : Prop :=
  e = .returned (.int .i64 (if r.1 then 0 else 6)) ∧ ∃ B', w.heap.size ≤ B' ∧ B' ≤ w'.heap.size ∧ DiskAt w' B' gd gs r.2 ∧ JAt w' gj gd (if r.1 then seq + 1 else seq) ∧ Fr (fun k => k = gd ∨ k = gs ∨ k = gj) w w'
theorem runL_cons (D : Dk) (p : List (Nat × List Int)) (ps : List (List (Nat × List Int))) : runL D (p :: ps) = if (writeL D p).1 then runL (writeL D p).2 ps else (false, (writeL D p).2) := rfl
theorem F_head {W : World} {base c : Nat} {ad : Addr} {s : List Int} (hR : Kd.R (Kd.int .u8) 5 W base (fun _ => True) (.slice (some ad) 64 c) s) (hs : s.length = 64) (hc : 64 ≤ c) :
    Kd.F PK (W.alloc (.cells #[.int .i64 1, .slice (some ad) 64 c, .int .u16 0] 50)) (fun k => base ≤ k ∧ k ≤ W.heap.size) (some ⟨W.heap.size, 0, none⟩) 1 [(1, s)] := by
  have h := Kd.R_F (Kd.R_bound hR)
  have h2 := F_single (i := 1) (blk_new W (.cells #[.int .i64 1, .slice (some ad) 64 c, .int .u16 0] 50)) hs hc (Kd.F_alloc h _)
  have hb : base ≤ W.heap.size ∨ W.heap.size < base := by omega
  rcases hb with hb | hb
  · exact Kd.F_mono h2 (fun k hk => by
      rcases hk with hk | hk
      · exact ⟨hk.2.1, Nat.le_of_lt hk.2.2.1⟩
      · subst hk; exact ⟨hb, Nat.le_refl _⟩)
  · exfalso
    have h3 := R_base' hR ad.block rfl
    have h4 := Kd.R_reads' hR
    have h5 := Kd.C_lt h4.2.2 (by omega) (by decide)
    omega
set_option maxHeartbeats 16000000 in
set_option maxRecDepth 100000 in
theorem commit_any (B gj gd gs : Nat) (seq : Int) (D : Dk) (ad : Addr) (c : Nat) (xs : List (Nat × List Int)) (ok : Nat → Prop) (w : World) (hJ : JAt w gj gd seq) (hgj : gj ≠ gd ∧ gj ≠ gs) (hD : DiskAt w B gd gs D) (hDw : D.waits = []) (hB : B ≤ w.heap.size)
    (hF : Kd.F PK w ok (some ad) 9 xs) (hok : ∀ k, ok k → k ≠ gd ∧ k ≠ gs ∧ k ≠ gj) (hx : Nine xs) (hc : 9 ≤ c) (hseq : 0 ≤ seq ∧ seq < 1000) :
    Calls Try.prog 10 #[.pointer (some ⟨gj, 0, none⟩), .slice (some ad) 9 c] w (CommitPost w gj gd gs seq (runL D (partsL seq xs))) := by
  have hn := Kd.F_len hF
  have HJ := Lib.hid hJ
  have HD := Lib.hid hD
  have HF := Lib.hid hF
  have HX := Lib.hid hx
  have HN := Lib.hid hn
  have HDw := Lib.hid hDw
  have HOK := Lib.hid hok
  obtain ⟨hs0, hs1⟩ := hseq
  have hw64 : IntKind.u64.wrap (seq + 1) = seq + 1 := by simp [IntKind.wrap, IntKind.bits, IntKind.signed]; omega
  clear hJ hF hx hn hD hDw hok
  go_enter Try.func10, Try.ntmps10
  go_wp2_with fail
  refine (room_any gj gd seq w HJ.out).mono ?_
  rintro e w' ⟨rfl, rfl⟩
  go_wp2_with fail
  go_loopg [6, 26] 9 (fun q _ i wr => ∃ k, k + q = 9 ∧ i = .int .i64 (k : Int) ∧ Hid (Below w.heap.size w wr))
  case atStart => exact ⟨0, rfl, rfl, Lib.hid (Below.refl _ _)⟩
  case round =>
    obtain ⟨k, hq, rfl, hB1⟩ := hrel
    cases gk with
    | zero =>
      obtain rfl : k = 9 := by omega
      have x3 := (HJ.out.below hB1.out).seq
      have hne : ((seq + 1 : Int) == 0) = false := by simp; omega
      go_wp2_with fail
      refine (jlay_any gj gd seq ad c xs ok wr (HJ.out.below hB1.out) (Kd.F_below HF.out hB1.out) HX.out.pok hc).mono ?_
      rintro e w1 ⟨A1, c1, rfl, hc1, hF1, hB1'⟩
      have HF1 := Lib.hid hF1
      have HB1 := Lib.hid (below_step hB1.out hB1')
      have hszr := hB1.out.size
      clear hF1 hB1' x3
      go_wp2_with fail
      refine (head_any gj gd seq (seq + 1) 9 w1 (HJ.out.below HB1.out) (by omega) (by omega)).mono ?_
      rintro e w2 ⟨ad2, c2, rfl, hc2, hR2, hB2⟩
      have HR2 := Lib.hid hR2
      have HB2 := Lib.hid hB2
      have HB2' := Lib.hid (below_step HB1.out hB2)
      clear hR2 hB2
      unfold patchV
      go_wp2_with fail
      obtain ⟨w3, hw3⟩ : ∃ w3, w2.alloc (Obj.cells #[.int .i64 1, .slice (some ad2) 64 c2, .int .u16 0] 50) = w3 := ⟨_, rfl⟩
      have HF3 := Lib.hid (show Kd.F PK w3 (fun k => w1.heap.size ≤ k ∧ k ≤ w2.heap.size) (some ⟨w2.heap.size, 0, none⟩) 1 [(1, headB (seq + 1) 9)] by rw [← hw3]; exact F_head HR2.out (headB_len _ _) hc2)
      have HB3 := Lib.hid (show Below w1.heap.size w1 w3 by rw [← hw3]; exact below_alloc HB2.out _)
      have HB3' := Lib.hid (show Below w.heap.size w w3 by rw [← hw3]; exact below_alloc HB2'.out _)
      have Hs3 := Lib.hid (show w3.heap.size = w2.heap.size + 1 by rw [← hw3]; simp)
      rw [hw3]
      clear hw3
      refine (head_any gj gd seq (seq + 1) 0 w3 (HJ.out.below HB3'.out) (by omega) (by omega)).mono ?_
      rintro e w4 ⟨ad4, c4, rfl, hc4, hR4, hB4⟩
      have HR4 := Lib.hid hR4
      have HB4 := Lib.hid hB4
      clear hR4 hB4
      unfold patchV
      go_wp2_with fail
      have hd := HD.out.lt
      have hgjl := HJ.out.lt
      have hs2 := HB2.out.size
      have hs3 := HB4.out.size
      have hs4 := HB3.out.size
      have hs5 := HB1.out.size
      obtain ⟨wp, hwp⟩ : ∃ wp, ((w4.alloc (Obj.cells #[.int .i64 1, .slice (some ad4) 64 c4, .int .u16 0] 50)).alloc (Obj.cells #[.slice A1 10 c1, .slice (some ⟨w2.heap.size, 0, none⟩) 1 1, .slice (some ad) 9 c, .slice (some ⟨w4.heap.size, 0, none⟩) 1 1] 43)) = wp := ⟨_, rfl⟩
      have hsz : wp.heap.size = w4.heap.size + 2 := by rw [← hwp]; simp
      have hb4 : Below w4.heap.size w4 wp := by rw [← hwp]; exact below_alloc (below_alloc (Below.refl _ _) _) _
      have hbp : Below w.heap.size w wp := below_step (below_step HB3'.out HB4.out) hb4
      have hgp : wp.heap[w4.heap.size + 1]? = some (.cells #[.slice A1 10 c1, .slice (some ⟨w2.heap.size, 0, none⟩) 1 1, .slice (some ad) 9 c, .slice (some ⟨w4.heap.size, 0, none⟩) 1 1] 43 (0, 0)) := by
        rw [← hwp]
        have := blk_new (w4.alloc (Obj.cells #[.int .i64 1, .slice (some ad4) 64 c4, .int .u16 0] 50)) (.cells #[.slice A1 10 c1, .slice (some ⟨w2.heap.size, 0, none⟩) 1 1, .slice (some ad) 9 c, .slice (some ⟨w4.heap.size, 0, none⟩) 1 1] 43)
        simpa using this
      have hP : ∀ p ∈ [Part.mk A1 10 c1 (laidL xs), Part.mk (some ⟨w2.heap.size, 0, none⟩) 1 1 [(1, headB (seq + 1) 9)], Part.mk (some ad) 9 c xs, Part.mk (some ⟨w4.heap.size, 0, none⟩) 1 1 [(1, headB (seq + 1) 0)]],
          p.Ok wp (fun k => k ≠ gd ∧ k ≠ gs ∧ k < wp.heap.size) := by
        intro p hp
        simp only [List.mem_cons, List.not_mem_nil, or_false] at hp
        rcases hp with rfl | rfl | rfl | rfl
        · refine ⟨Kd.F_mono (Kd.F_bound (Kd.F_below (Kd.F_below (Kd.F_below HF1.out HB3.out) HB4.out) hb4)) (fun k hk => ?_), laidL_pok HX.out HN.out, by simp⟩
          rcases hk.1 with h | h
          · exact ⟨(HOK.out k h.1).1, (HOK.out k h.1).2.1, hk.2⟩
          · exact ⟨by omega, by omega, hk.2⟩
        · refine ⟨Kd.F_mono (Kd.F_below (Kd.F_below HF3.out HB4.out) hb4) (fun k hk => ⟨by omega, by omega, by have := Hs3.out; omega⟩), fun x hx => ?_, by simp⟩
          rw [List.mem_singleton.1 hx]; exact ⟨by show (1 : Nat) < 88; decide, headB_len _ _⟩
        · refine ⟨Kd.F_mono (Kd.F_bound (Kd.F_below HF.out hbp)) (fun k hk => ⟨(HOK.out k hk.1).1, (HOK.out k hk.1).2.1, hk.2⟩), HX.out.pok, by simp⟩
        · have h4 := F_head HR4.out (headB_len _ _) hc4
          have h5 : Kd.F PK wp (fun k => w3.heap.size ≤ k ∧ k ≤ w4.heap.size) (some ⟨w4.heap.size, 0, none⟩) 1 [(1, headB (seq + 1) 0)] := by rw [← hwp]; exact Kd.F_alloc h4 _
          refine ⟨Kd.F_mono h5 (fun k hk => ⟨by omega, by omega, by omega⟩), fun x hx => ?_, by simp⟩
          · rw [List.mem_singleton.1 hx]; exact ⟨by show (1 : Nat) < 88; decide, headB_len _ _⟩
      rw [hwp]
      obtain ⟨parts, hparts⟩ : ∃ parts, [Part.mk A1 10 c1 (laidL xs), Part.mk (some ⟨w2.heap.size, 0, none⟩) 1 1 [(1, headB (seq + 1) 9)], Part.mk (some ad) 9 c xs, Part.mk (some ⟨w4.heap.size, 0, none⟩) 1 1 [(1, headB (seq + 1) 0)]] = parts := ⟨_, rfl⟩
      rw [hparts] at hP
      have HP := Lib.hid hP
      have hcells : (#[.slice A1 10 c1, .slice (some ⟨w2.heap.size, 0, none⟩) 1 1, .slice (some ad) 9 c, .slice (some ⟨w4.heap.size, 0, none⟩) 1 1] : Array Value) = (parts.map Part.val).toArray := by rw [← hparts]; rfl
      have hruns : partsL seq xs = parts.map Part.xs := by rw [← hparts]; rfl
      have hpl : parts.length = 4 := by rw [← hparts]; rfl
      rw [hcells] at hgp
      have HGP := Lib.hid hgp
      have HRU := Lib.hid hruns
      have HPL := Lib.hid hpl
      have HBP := Lib.hid hbp
      have HSZ := Lib.hid (show w4.heap.size + 1 < wp.heap.size ∧ gd < wp.heap.size ∧ gs < wp.heap.size ∧ gj < wp.heap.size ∧ gd < w4.heap.size ∧ gs < w4.heap.size ∧ w.heap.size ≤ wp.heap.size by omega)
      have HDP := Lib.hid ((HD.out.below hbp).raise HDw.out (B' := wp.heap.size) ⟨by omega, by omega⟩)
      clear hP hparts hcells hruns hpl hgp hbp hb4 hwp hd hgjl hs2 hs3 hs4 hs5 hszr hsz
      go_loopg [9, 10, 65] 4 (fun q _ _ i wr => ∃ (k : Nat) (De : Dk), k + q = 4 ∧ i = .int .i64 (k : Int) ∧ Hid (DiskAt wr wp.heap.size gd gs De) ∧ Hid (Fr (DS wp.heap.size gd gs) wp wr) ∧ Hid (runL D (partsL seq xs) = runL De ((parts.drop k).map Part.xs)) ∧ Hid (De.waits = []))
      case atStart => exact ⟨0, D, rfl, rfl, HDP, Lib.hid (Fr.refl _ _), Lib.hid (by rw [HRU.out]; rfl), HDw⟩
      case round =>
        obtain ⟨k, De, hq, rfl, hDe, hFr, hRun, hWn⟩ := hrel
        have hJr : JAt wr gj gd seq := hFr.out.blk (HJ.out.below HBP.out) (fun h => by
          have := HSZ.out
          rcases h with h | h | h
          · exact hgj.1 h
          · exact hgj.2 h
          · omega)
        cases gk with
        | zero =>
          obtain rfl : k = 4 := by omega
          have e4 : runL D (partsL seq xs) = (true, De) := by rw [hRun.out, List.drop_of_length_le (by rw [HPL.out]; exact Nat.le_refl _)]; rfl
          have E4 := Lib.hid e4
          have x3 := hJr.seq
          have f3 : wr.frozen? ⟨gj, 3, none⟩ = false := blk_frozen hJr 3
          have HJr := Lib.hid hJr
          clear e4 hJr
          go_wp2_with fail
          go_ret
          unfold CommitPost
          rw [E4.out]
          refine ⟨rfl, wp.heap.size, HSZ.out.2.2.2.2.2.2, ?_, hDe.out.step (Fr.put1 (Fr.refl _ _) 3 _).kept hgj.1.symm hgj.2.symm (fun k hk e => by have := HSZ.out; omega), blk_put HJr.out 3 _ rfl, ?_⟩
          · exact Nat.le_trans hFr.out.size (by simp [World.setCell])
          · refine ((Fr.of_below HBP.out _).then_ hFr.out (fun k hk => ?_)).put (.inr (.inr rfl)) _ _
            rcases hk with h | h | h
            · exact .inl (.inl h)
            · exact .inl (.inr (.inl h))
            · exact .inr (Nat.le_trans HSZ.out.2.2.2.2.2.2 h)
        | succ q =>
          have d1 : decide ((k : Int) < 4) = true := decide_eq_true (by omega)
          have q0 : 0 ≤ (k : Int) := by omega
          have q1 : (k : Int) < 4 := by omega
          have hkl : k < parts.length := by rw [HPL.out]; omega
          obtain ⟨p, hp⟩ : ∃ p, parts[k] = p := ⟨_, rfl⟩
          have hpok := HP.out p (by rw [← hp]; exact List.getElem_mem hkl)
          have hgr := hFr.out.blk HGP.out (fun h => by
            have := HSZ.out
            rcases h with h | h | h <;> omega)
          have xk : wr.cell? ⟨w4.heap.size + 1, k, none⟩ = some (.slice p.A p.n p.c) := by
            rw [blk_cell hgr k]
            simp [hkl, hp, Part.val]
          have hRk : runL D (partsL seq xs) = runL De (p.xs :: (parts.drop (k + 1)).map Part.xs) := by rw [hRun.out, List.drop_eq_getElem_cons hkl, hp]; rfl
          rw [runL_cons] at hRk
          obtain ⟨pA, pn, pc, px⟩ := p
          have hjw := jwrite_any wp.heap.size gj gd gs seq De pA pn pc px (fun k => k ≠ gd ∧ k ≠ gs ∧ k < wp.heap.size) wr hJr (fun h => by
            have := HSZ.out
            rcases h with h | h | h
            · exact hgj.1 h
            · exact hgj.2 h
            · omega) hDe.out hFr.out.size (Kd.F_kept hpok.1 hFr.out.kept (fun k hk h => by rcases h with h | h | h; exact hk.1 h; exact hk.2.1 h; omega)) (fun k hk h => by rcases h with h | h | h; exact hk.1 h; exact hk.2.1 h; omega) hpok.2.1 (by have h1 := hpok.2.2; rw [hWn.out]; simp only at h1; simp; omega)
          have HJW := Lib.hid hjw
          have HRk := Lib.hid hRk
          clear hjw hRk hgr hpok hp hkl hJr
          go_wp2_with fail
          refine HJW.out.mono ?_
          rintro e w9 ⟨rfl, hD9, hF9⟩
          have HD9 := Lib.hid hD9
          have HF9 := Lib.hid (hFr.out.trans hF9)
          clear hD9 hF9 HJW
          cases hok : (writeL De px).1 with
          | true =>
            have Hok := Lib.hid hok
            have HR9 := Lib.hid (show runL D (partsL seq xs) = runL (writeL De px).2 ((parts.drop (k + 1)).map Part.xs) by rw [HRk.out, if_pos hok])
            clear hok
            rw [if_pos rfl]
            go_wp2_with fail
            go_roundg q
            case measure => omega
            case rel => exact ⟨k + 1, _, by omega, by go_num, HD9, HF9, HR9, Lib.hid (writeL_waits px De Hok.out)⟩
          | false =>
            have HR9 := Lib.hid (show runL D (partsL seq xs) = (false, (writeL De px).2) by rw [HRk.out, if_neg (by rw [hok]; simp)])
            clear hok
            rw [if_neg (by simp)]
            go_wp2_with fail
            go_ret
            unfold CommitPost
            rw [HR9.out]
            refine ⟨rfl, wp.heap.size, HSZ.out.2.2.2.2.2.2, HF9.out.size, HD9.out, HF9.out.blk (HJ.out.below HBP.out) (fun h => ?_), (Fr.of_below HBP.out _).then_ HF9.out (fun k hk => ?_)⟩
            · have := HSZ.out
              rcases h with h | h | h
              · exact hgj.1 h
              · exact hgj.2 h
              · omega
            · rcases hk with h | h | h
              · exact .inl (.inl h)
              · exact .inl (.inr (.inl h))
              · exact .inr (Nat.le_trans HSZ.out.2.2.2.2.2.2 h)
    | succ q =>
      have d1 : decide ((k : Int) < 9) = true := decide_eq_true (by omega)
      have q0 : 0 ≤ (k : Int) := by omega
      have q1 : (k : Int) < 9 := by omega
      have hkl : k < xs.length := by rw [HN.out]; omega
      obtain ⟨x, hx⟩ : ∃ x, xs[k] = x := ⟨_, rfl⟩
      have Hx := Lib.hid (HX.out x (by rw [← hx]; exact List.getElem_mem hkl))
      have hFk := Kd.F_below HF.out hB1.out
      obtain ⟨ad', cs, e, hcl, hFK, hcell, hin⟩ := Kd.F_get hFk x (k : Int) q0 q1
      injection e with e
      subst e
      rw [Int.toNat_natCast] at hcell hFK
      have hgx : xs.getD k x = x := by rw [List.getD_eq_getElem?_getD, List.getElem?_eq_getElem hkl, hx]; rfl
      rw [hgx] at hFK
      obtain ⟨A2, cap, rfl, hcap, hF2⟩ := PK_FK hFK
      rw [Hx.out.2.2] at hcell
      have hload := Lib.hid (load_any wr (ad.add (k * 3)) 50 [.int .i64 (x.1 : Int), .slice A2 64 cap, .int .u16 0] _ (fun j v hj => by rw [add_add]; exact hcell j v hj) Try.underlying50 rfl (by rw [sz_patch]; rfl))
      obtain ⟨w2, hw2⟩ : ∃ w2, (wr.alloc (Obj.cells #[.int .i64 0, .slice none 0 0, .int .u16 0] 50)).setRow wr.heap.size #[.int .i64 (x.1 : Int), .slice A2 64 cap, .int .u16 0] = w2 := ⟨_, rfl⟩
      have hB2 : Below wr.heap.size wr w2 := by rw [← hw2]; exact below_setRow (below_alloc (Below.refl _ _) _) (Nat.le_refl _) _
      have hz2 : w2.heap[wr.heap.size]? = some (.cells #[.int .i64 (x.1 : Int), .slice A2 64 cap, .int .u16 0] 50 (0, 0)) := by rw [← hw2]; exact setRow_heap _ _ _ _ _ _ (blk_new _ _)
      have c0 : w2.cell? ⟨wr.heap.size, 0, none⟩ = some (.int .i64 (x.1 : Int)) := blk_cell hz2 0
      have Hz2 := Lib.hid hz2
      have HB2 := Lib.hid (below_step hB1.out hB2)
      have Hw2 := Lib.hid hw2
      have Hxa := Lib.hid (show (31 : Int) ≤ (x.1 : Int) ∧ (x.1 : Int) < 88 by have := Hx.out; omega)
      clear hx hFk hcl hFK hcell hin hgx hcap hF2 hkl hw2 hB2 hz2
      go_wp2_with (first | ((with_reducible refine gate_load 50 (.tmp 28) rfl ?_); refine wpList_load_eq rfl _ _ rfl _ _ rfl hload.out ?_) | ((with_reducible refine gate_store 50 (.tmp 6) (.tmp 29) rfl ?_); refine wpList_store_eq rfl _ _ _ rfl _ _ rfl rfl (store_row (blk_new _ _) (by rw [sz_patch]; rfl) rfl (by simp [Value.oneCell'])) ?_; rw [Hw2.out]))
      refine (outside_any B gj gd gs seq D (x.1 : Int) w2 (HJ.out.below HB2.out) (HD.out.below HB2.out) Hxa.out.1 Hxa.out.2).mono ?_
      rintro e w3 ⟨rfl, hB3⟩
      have hz3 := blk_below Hz2.out hB3
      have c1 : w3.cell? ⟨wr.heap.size, 1, none⟩ = some (.slice A2 64 cap) := blk_cell hz3 1
      have HB3 := Lib.hid (below_step HB2.out hB3)
      clear hz3 hB3
      go_wp2_with fail
      go_roundg q
      case measure => omega
      case rel => exact ⟨k + 1, by omega, by go_num, HB3⟩
end Go.Proofs.Ytpbijdalfeaheaa.Tf

/- journal: begin. -/
namespace Go.Proofs.Ytpbijdalfeaheaa.Tf
open Go.RowKit Go.Proofs.YtpbijdalfeaheaaW.PrintWords Go.Proofs.YtpbijdalfeaheaaW.PrintLast Go.Proofs.YtpbijdalfeaheaaW.PrintMore
set_option linter.unusedVariables false
set_option linter.unusedSimpArgs false
theorem yields_conv {ops : Array Oper} {S : World → Prop} {op : Oper} {a : Act} (hw : Region.wanted op (yielded ops a.tmps) = true) (src dst : TypeId) (x : Operand) (ho : op.op = .convert src dst x) (p v : Value) (hx : a.eval x = p) (hrun : ∀ W, S W → (convert src dst p).run Try.prog W = .ok v W) : YieldsIf Try.prog ops S op v a :=
  .inl ⟨hw, fun w hS => by
    unfold execOp
    simp only [ho, hx, Sem.run_bind, hrun w hS, Sem.run_pure, Result.andThen_ok]⟩
theorem run_exec_conv {o : Oper} {a : Act} {W W1 : World} {src dst : TypeId} {x : Operand} {p v : Value} (ho : o.op = .convert src dst x) (hx : a.eval x = p) (hrun : (convert src dst p).run Try.prog W = .ok v W1) :
    (execOp a.eval o).run Try.prog W = .ok (.value v) W1 := by
  unfold execOp
  simp only [ho, hx, Sem.run_bind, Sem.run_pure, Result.andThen_ok, hrun]
theorem run_exec_make {o : Oper} {a : Act} {W W1 : World} {T : TypeId} {x y : Operand} {p q v : Value} (ho : o.op = .makeSlice T x y) (hx : a.eval x = p) (hy : a.eval y = q) (hrun : (Instr.makeSlice T p q).run Try.prog W = .ok v W1) :
    (execOp a.eval o).run Try.prog W = .ok (.value v) W1 := by
  unfold execOp
  simp only [ho, hx, hy, Sem.run_bind, Sem.run_pure, Result.andThen_ok, hrun]
theorem made64 (W : World) : (Instr.makeSlice 33 (.int .i64 64) (.int .i64 64)).run Try.prog W = .ok (.slice (some ⟨W.heap.size, 0, none⟩) 64 64) (W.alloc (.cells (madeCells #[.int .u8 0] 64) 5)) :=
  print_make (P := Try.prog) 33 5 .u8 1 Try.underlying33 (by kernel_rfl) (by decide) 64 (by omega) W
def zeroB : List Int := List.replicate 64 0
theorem zero_C (W : World) : Kd.C (Kd.int .u8) (W.alloc (.cells (madeCells #[.int .u8 0] 64) 5)) (some ⟨W.heap.size, 0, none⟩) 64 zeroB := by
  have h := bk_made W 64
  have h2 := C_of_blk (k := .u8) (xs := zeroB) h (by simp [zeroB])
  exact h2
set_option maxHeartbeats 8000000 in
set_option maxRecDepth 100000 in
theorem begin_zero (gj gd : Nat) (sq : Int) (A : Option Addr) (c : Nat) (w : World) (hJ : JAt w gj gd sq) (hr : Kd.C (Kd.int .u8) w A 64 zeroB) :
    Calls Try.prog 20 #[.pointer (some ⟨gj, 0, none⟩), .slice A 64 c] w fun e w' => e = .returned (.tuple #[.int .i64 0, .bool true]) ∧ Below w.heap.size w w' := by
  have HJ := Lib.hid hJ
  have HR := Lib.hid hr
  clear hJ hr
  go_enter Try.func20, Try.ntmps20
  go_wp2_with fail
  refine start_ (n := 5) (S := (fun W => Below w.heap.size w W)) (ds := []) #[false, false, false, false, false] (by kernel_rfl) rfl rfl (below_drew (Below.refl _ _)) (fun hHeld => ?_)
  refine pure_ (i := 0) (N := some 12) (v := ?_) (a' := ?_) #[true, false, false, false, false] rfl rfl (by kernel_rfl) (fun _ _ _ h => h) (Or.inl ⟨by rfl, ?_⟩) ?_ ?_
  rotate_left
  · intro w'
    go_simp
    with_reducible rfl
  rotate_left
  · simp only [Act.put, List.setIfInBounds_toArray, List.set_cons_zero, List.set_cons_succ, i64_w, i32_w]
    rfl
  refine take_ (i := 1) (N := some 13) (v := .string (strOfNums zeroB)) (a' := ?_) #[true, true, false, false, false] rfl rfl (by kernel_rfl) (fun _ _ _ h => h) (yields_conv (by rfl) 33 9 (.tmp 12) rfl _ _ rfl (fun w' hS => Kd.C_string Try.underlying33 Try.underlying5 Try.underlying9 (Kd.C_below HR.out hS))) hHeld ?_ ?_
  rotate_left
  · simp only [Act.put, List.setIfInBounds_toArray, List.set_cons_zero, List.set_cons_succ, i64_w, i32_w]
    rfl
  refine one_ (i := 2) (N := some 14) #[true, true, true, false, false] rfl rfl (by kernel_rfl) (by decide) (fun K hK => ?_)
  refine value_ (by rfl) rfl (run_exec_make rfl rfl rfl (made64 w.drew)) ?_
  refine hK.out _ _ (below_alloc hHeld _) (fun hHeld => ?_)
  clear hK K
  refine norm_ (a' := ?_) ?_ ?_
  rotate_left
  · show Act.put _ (some 14) _ = _
    simp only [Act.put, List.setIfInBounds_toArray, List.set_cons_zero, List.set_cons_succ, i64_w, i32_w]
    rfl
  refine one_ (i := 3) (N := some 15) #[true, true, true, true, false] rfl rfl (by kernel_rfl) (by decide) (fun K hK => ?_)
  have hcz := zero_C w.drew
  refine value_ (by rfl) rfl (run_exec_conv rfl rfl (Kd.C_string Try.underlying33 Try.underlying5 Try.underlying9 hcz)) ?_
  refine hK.out _ _ (hHeld) (fun hHeld => ?_)
  clear hK K
  refine norm_ (a' := ?_) ?_ ?_
  rotate_left
  · show Act.put _ (some 15) _ = _
    simp only [Act.put, List.setIfInBounds_toArray, List.set_cons_zero, List.set_cons_succ, i64_w, i32_w]
    rfl
  refine pure_ (i := 4) (N := some 16) (v := ?_) (a' := ?_) #[true, true, true, true, true] rfl rfl (by kernel_rfl) (fun _ _ _ h => h) (Or.inl ⟨by rfl, ?_⟩) ?_ ?_
  rotate_left
  · intro w'
    go_simp
    with_reducible rfl
  rotate_left
  · simp only [Act.put, List.setIfInBounds_toArray, List.set_cons_zero, List.set_cons_succ, i64_w, i32_w]
    rfl
  refine done_ (by kernel_rfl) ?_
  go_wp2_with fail
  go_ret2
  exact ⟨rfl, hHeld⟩
/-- Bytes as a text: two texts are one if the bytes are. -/
theorem str_inj {a b : List Int} (ha : ∀ x ∈ a, 0 ≤ x ∧ x < 256) (hb : ∀ x ∈ b, 0 ≤ x ∧ x < 256) (h : strOfNums a = strOfNums b) : a = b := by
  have h1 : a.map (fun n => UInt8.ofNat n.toNat) = b.map (fun n => UInt8.ofNat n.toNat) := by
    have := congrArg (fun z : ByteArray => z.data.toList) h
    simpa [strOfNums] using this
  have key : ∀ l : List Int, (∀ x ∈ l, 0 ≤ x ∧ x < 256) → (l.map (fun n => UInt8.ofNat n.toNat)).map (fun u => (u.toNat : Int)) = l := by
    intro l hl
    rw [List.map_map]
    conv => rhs; rw [← List.map_id l]
    apply List.map_congr_left
    intro x hx
    have := hl x hx
    simp only [Function.comp, id, UInt8.toNat_ofNat']
    omega
  rw [← key a ha, ← key b hb, h1]
theorem headB_byte (seq count : Int) : ∀ x ∈ headB seq count, 0 ≤ x ∧ x < 256 := by
  intro x hx
  unfold headB sealL at hx
  rcases List.mem_append.1 hx with hx | hx
  · exact headX_byte seq count x hx
  · exact putL_byte _ _ x hx
theorem get_seq (seq count : Int) (h : 0 ≤ seq ∧ seq < 256) : P.field_Get.f 9 (headX seq count) 0 8 = some (seq, 0) := by
  refine get_mid (headX seq count) 0 8 seq (by omega) (by omega) (by rw [headX_len]; omega) (by rw [headX_len]; omega) ?_ h.1 (by omega)
  unfold headX
  rw [List.append_assoc, Nat.zero_add, List.take_left' (putL_len _ _), List.drop_zero]
theorem get_count (seq count : Int) (h : 0 ≤ count ∧ count < 65536) : P.field_Get.f 9 (headX seq count) 8 2 = some (count, 0) := by
  refine get_mid (headX seq count) 8 2 count (by omega) (by omega) (by rw [headX_len]; omega) (by rw [headX_len]; omega) ?_ h.1 (by omega)
  unfold headX
  rw [List.take_left' (by simp [putL_len]), List.drop_left' (putL_len _ _)]
theorem openN (A0 : Option Addr) (c0 n : Nat) (xs : List Int) (w : World) (hn : xs.length + 4 = n) (hr : Kd.C (Kd.int .u8) w A0 n (sealL xs)) (hb : ∀ x ∈ xs, 0 ≤ x ∧ x < 256) (hc0 : n ≤ c0) (h0 : 0 < xs.length) (h1 : xs.length ≤ 3000) :
    Calls Try.prog 39 #[.slice A0 n c0] w fun e w' => ∃ v, e = .returned (.tuple #[v, .int .i64 0]) ∧ Kd.R (Kd.int .u8) 5 w' w.heap.size (fun _ => True) v xs ∧ Below w.heap.size w w' := by
  subst hn; exact open_any A0 c0 xs w hr hb hc0 h0 h1
theorem headC {W : World} {base c n : Nat} {ad : Addr} {s : List Int} (h : Kd.R (Kd.int .u8) 5 W base (fun _ => True) (.slice (some ad) n c) s) : Kd.C (Kd.int .u8) W (some ad) n s := by
  have := Kd.R_reads' h
  rw [this.1]; exact this.2.2
/-- Bytes do not lie in the journal's struct. -/
theorem bytes_neJ {W : World} {gj gd m : Nat} {seq : Int} {ad : Addr} {s : List Int} (hJ : JAt W gj gd seq) (hC : Kd.C (Kd.int .u8) W (some ad) m s) (hm : 0 < m) : ad.block ≠ gj := by
  have hl := hC.1
  obtain ⟨ad', e, hc⟩ := hC.2.2 hm
  injection e with e
  subst e
  obtain ⟨x, hx⟩ : ∃ x, s[0]? = some x := ⟨s[0], List.getElem?_eq_getElem (by omega)⟩
  obtain ⟨cs, _, hr, hcc⟩ := hc 0 x hx
  have hr2 : cs = [.int .u8 x] := hr
  subst hr2
  have h2 := hcc 0 _ rfl
  rintro rfl
  have e0 : ad.add (0 * (Kd.int .u8).sz + 0) = ad := by
    have : (0 * (Kd.int .u8).sz + 0) = 0 := by simp
    rw [this]; unfold Addr.add; simp
  rw [e0] at h2
  unfold World.cell? at h2
  rw [hJ] at h2
  simp only at h2
  split at h2
  · simp at h2
  · unfold jcs at h2
    rcases ho : ad.off with _ | _ | _ | _ | k <;> rw [ho] at h2 <;> simp at h2
/-- A store elsewhere. -/
theorem C_away {W : World} {g j m : Nat} {u : Value} {A : Option Addr} {s : List Int} (hC : Kd.C (Kd.int .u8) W A m s) (hm : 0 < m) (hne : ∀ ad, A = some ad → ad.block ≠ g) : Kd.C (Kd.int .u8) (W.setCell ⟨g, j, none⟩ u) A m s := by
  obtain ⟨h1, h2, h3⟩ := hC
  refine ⟨h1, h2, fun hn => ?_⟩
  obtain ⟨ad, e, hc⟩ := h3 hn
  refine ⟨ad, e, fun j p hj => ?_⟩
  obtain ⟨c, hcl, hr, hcc⟩ := hc j p hj
  refine ⟨c, hcl, hr, fun i v hi => ?_⟩
  rw [World.cell?_of_block (w := W) (Below.heap_setCell W ⟨g, _, none⟩ u _ (by rw [add_block]; exact hne ad e))]
  exact hcc i v hi
theorem field_bytes (i : Int) (A : Option Addr) (n c : Nat) (W : World) : (Instr.field 50 (.agg #[.int .i64 i, .slice A n c, .int .u16 0]) 1).run Try.prog W = .ok (.slice A n c) W := by kernel_rfl
theorem head_ne (seq count : Int) (h1 : 0 < seq) (h2 : seq < 256) : headB seq count ≠ zeroB := by
  intro h
  have e : (headB seq count)[0]? = some (seq % 256) := by
    unfold headB sealL headX
    rw [List.getElem?_append_left (by simp [putL_len]), List.getElem?_append_left (by simp [putL_len]), List.getElem?_append_left (by simp [putL_len]), putL_get seq 8 0 (by decide)]
    simp
  rw [h] at e
  simp [zeroB] at e
  omega
set_option maxHeartbeats 8000000 in
set_option maxRecDepth 100000 in
theorem begin_head (gj gd : Nat) (sq : Int) (seq count : Int) (A : Option Addr) (c : Nat) (w : World) (hJ : JAt w gj gd sq) (hr : Kd.C (Kd.int .u8) w A 64 (headB seq count)) (hc : 64 ≤ c) (hs : 0 < seq ∧ seq < 256) (hn : 0 ≤ count ∧ count ≤ 27) :
    Calls Try.prog 20 #[.pointer (some ⟨gj, 0, none⟩), .slice A 64 c] w fun e w' => e = .returned (.tuple #[.int .i64 count, .bool true]) ∧ JAt w' gj gd seq ∧ Fr (fun k => k = gj) w w' := by
  have HJ := Lib.hid hJ
  have HR := Lib.hid hr
  have HS := Lib.hid hs
  have HN := Lib.hid hn
  have hne : ((strOfNums (headB seq count)).toList == (strOfNums zeroB).toList) = false := by
    refine beq_eq_false_iff_ne.2 (fun h => head_ne seq count hs.1 hs.2 (str_inj (headB_byte seq count) (fun x hx => by rw [List.eq_of_mem_replicate hx]; omega) (WideShapes.bytes_inj (by rw [← ByteArray.toList_eq, h, ByteArray.toList_eq]))))
  have hcv : wrap64 count = count := by unfold wrap64; omega
  have hcv2 : IntKind.i64.wrap count = count := by rw [i64_w]; exact hcv
  clear hJ hr
  go_enter Try.func20, Try.ntmps20
  go_wp2_with fail
  refine start_ (n := 5) (S := (fun W => Below w.heap.size w W)) (ds := []) #[false, false, false, false, false] (by kernel_rfl) rfl rfl (below_drew (Below.refl _ _)) (fun hHeld => ?_)
  refine pure_ (i := 0) (N := some 12) (v := ?_) (a' := ?_) #[true, false, false, false, false] rfl rfl (by kernel_rfl) (fun _ _ _ h => h) (Or.inl ⟨by rfl, ?_⟩) ?_ ?_
  rotate_left
  · intro w'
    go_simp
    with_reducible rfl
  rotate_left
  · simp only [Act.put, List.setIfInBounds_toArray, List.set_cons_zero, List.set_cons_succ, i64_w, i32_w]
    rfl
  refine take_ (i := 1) (N := some 13) (v := .string (strOfNums (headB seq count))) (a' := ?_) #[true, true, false, false, false] rfl rfl (by kernel_rfl) (fun _ _ _ h => h) (yields_conv (by rfl) 33 9 (.tmp 12) rfl _ _ rfl (fun w' hS => Kd.C_string Try.underlying33 Try.underlying5 Try.underlying9 (Kd.C_below HR.out hS))) hHeld ?_ ?_
  rotate_left
  · simp only [Act.put, List.setIfInBounds_toArray, List.set_cons_zero, List.set_cons_succ, i64_w, i32_w]
    rfl
  refine one_ (i := 2) (N := some 14) #[true, true, true, false, false] rfl rfl (by kernel_rfl) (by decide) (fun K hK => ?_)
  refine value_ (by rfl) rfl (run_exec_make rfl rfl rfl (made64 w.drew)) ?_
  refine hK.out _ _ (below_alloc hHeld _) (fun hHeld => ?_)
  clear hK K
  refine norm_ (a' := ?_) ?_ ?_
  rotate_left
  · show Act.put _ (some 14) _ = _
    simp only [Act.put, List.setIfInBounds_toArray, List.set_cons_zero, List.set_cons_succ, i64_w, i32_w]
    rfl
  refine one_ (i := 3) (N := some 15) #[true, true, true, true, false] rfl rfl (by kernel_rfl) (by decide) (fun K hK => ?_)
  have hcz := zero_C w.drew
  refine value_ (by rfl) rfl (run_exec_conv rfl rfl (Kd.C_string Try.underlying33 Try.underlying5 Try.underlying9 hcz)) ?_
  refine hK.out _ _ (hHeld) (fun hHeld => ?_)
  clear hK K
  refine norm_ (a' := ?_) ?_ ?_
  rotate_left
  · show Act.put _ (some 15) _ = _
    simp only [Act.put, List.setIfInBounds_toArray, List.set_cons_zero, List.set_cons_succ, i64_w, i32_w]
    rfl
  refine pure_ (i := 4) (N := some 16) (v := ?_) (a' := ?_) #[true, true, true, true, true] rfl rfl (by kernel_rfl) (fun _ _ _ h => h) (Or.inl ⟨by rfl, ?_⟩) ?_ ?_
  rotate_left
  · intro w'
    go_simp
    with_reducible rfl
  rotate_left
  · simp only [Act.put, List.setIfInBounds_toArray, List.set_cons_zero, List.set_cons_succ, i64_w, i32_w]
    rfl
  refine done_ (by kernel_rfl) ?_
  go_wp2_with fail
  obtain ⟨w1, hw1⟩ : ∃ w1, (w.alloc (Obj.cells (madeCells #[Value.int .u8 0] 64) 5)).drew = w1 := ⟨_, rfl⟩
  have hB1 : Below w.heap.size w w1 := by rw [← hw1]; exact below_drew (below_alloc (Below.refl _ _) _)
  rw [hw1]
  clear hw1 hHeld hcz hne
  refine (openN A c 64 (headX seq count) w1 (by rw [headX_len]) (Kd.C_below HR.out hB1) (headX_byte seq count) hc (by rw [headX_len]; decide) (by rw [headX_len]; decide)).mono ?_
  rintro e w2 ⟨v2, rfl, hR2, hB2⟩
  obtain ⟨A2, c2, rfl, hc2, hC2⟩ := Kd.R_reads hR2
  rw [headX_len] at hc2 hC2 ⊢
  have HC2 := Lib.hid hC2
  have HB2 := Lib.hid (below_step hB1 hB2)
  clear hR2 hB2 hC2 hB1
  go_wp2_with fail
  refine (getC A2 c2 60 (headX seq count) 0 8 seq 0 w2 (headX_len _ _) (by rw [headX_len]; exact HC2.out) (by rw [headX_len]; exact hc2) (get_seq seq count (by have := HS.out; omega))).mono ?_
  rintro e w3 ⟨rfl, hd3⟩
  have HB3 := Lib.hid (below_step HB2.out hd3.below)
  have HC3 := Lib.hid (Kd.C_below HC2.out hd3.below)
  clear hd3
  go_wp2_with fail
  refine (getC A2 c2 60 (headX seq count) 8 2 count 0 w3 (headX_len _ _) (by rw [headX_len]; exact HC3.out) (by rw [headX_len]; exact hc2) (get_count seq count (by have := HN.out; omega))).mono ?_
  rintro e w4 ⟨rfl, hd4⟩
  have HB4 := Lib.hid (below_step HB3.out hd4.below)
  have hJ4 := HJ.out.below HB4.out
  have x3 := hJ4.seq
  have f3 : w4.frozen? ⟨gj, 3, none⟩ = false := blk_frozen hJ4 3
  have HJ4 := Lib.hid hJ4
  clear hd4 hJ4
  go_wp2_with fail
  obtain ⟨w5, hw5⟩ : ∃ w5, w4.setCell ⟨gj, 3, none⟩ (.int .u64 seq) = w5 := ⟨_, rfl⟩
  have HJ5 := Lib.hid (show JAt w5 gj gd seq by rw [← hw5]; exact blk_put HJ4.out 3 _ rfl)
  have HF5 := Lib.hid (show Fr (fun k => k = gj) w w5 by rw [← hw5]; exact (Fr.of_below HB4.out _).put1 3 _)
  have HR5 := Lib.hid (show Kd.C (Kd.int .u8) w5 A 64 (headB seq count) by
    rw [← hw5]
    exact C_away (Kd.C_below HR.out HB4.out) (by decide) (fun ad e => by subst e; exact bytes_neJ HJ4.out (Kd.C_below HR.out HB4.out) (by decide)))
  have Hq8 := Lib.hid (show 0 ≤ seq ∧ seq < 256 ^ 8 by have := HS.out; omega)
  have Hc16 := Lib.hid (show 0 ≤ count ∧ count < 65536 by have := HN.out; omega)
  have d27 : decide (count ≤ 27) = true := decide_eq_true HN.out.2
  have hself : ((strOfNums (headB seq count)).toList == (strOfNums (headB seq count)).toList) = true := beq_self_eq_true _
  rw [hw5]
  clear hw5 x3 f3
  refine start_ (n := 21) (S := (fun W => Below w5.heap.size w5 W)) (ds := []) #[false, false, false, false, false, false, false, false, false, false, false, false, false, false, false, false, false, false, false, false, false] (by kernel_rfl) rfl rfl (below_drew (Below.refl _ _)) (fun hHeld => ?_)
  refine pure_ (i := 0) (N := some 38) (v := ?_) (a' := ?_) #[true, false, false, false, false, false, false, false, false, false, false, false, false, false, false, false, false, false, false, false, false] rfl rfl (by kernel_rfl) (fun _ _ _ h => h) (Or.inl ⟨by rfl, ?_⟩) ?_ ?_
  rotate_left
  · intro w'
    go_simp
    with_reducible rfl
  rotate_left
  · simp only [Act.put, List.setIfInBounds_toArray, List.set_cons_zero, List.set_cons_succ, i64_w, i32_w]
    rfl
  refine pure_ (i := 1) (N := some 39) (v := ?_) (a' := ?_) #[true, true, false, false, false, false, false, false, false, false, false, false, false, false, false, false, false, false, false, false, false] rfl rfl (by kernel_rfl) (fun _ _ _ h => h) (Or.inl ⟨by rfl, ?_⟩) ?_ ?_
  rotate_left
  · intro w'
    go_simp
    with_reducible rfl
  rotate_left
  · simp only [Act.put, List.setIfInBounds_toArray, List.set_cons_zero, List.set_cons_succ, i64_w, i32_w]
    rfl
  refine pure_ (i := 2) (N := some 40) (v := ?_) (a' := ?_) #[true, true, true, false, false, false, false, false, false, false, false, false, false, false, false, false, false, false, false, false, false] rfl rfl (by kernel_rfl) (fun _ _ _ h => h) (Or.inl ⟨by rfl, ?_⟩) ?_ ?_
  rotate_left
  · intro w'
    go_simp
    with_reducible rfl
  rotate_left
  · simp only [Act.put, List.setIfInBounds_toArray, List.set_cons_zero, List.set_cons_succ, i64_w, i32_w]
    rfl
  refine pure_ (i := 3) (N := some 41) (v := ?_) (a' := ?_) #[true, true, true, true, false, false, false, false, false, false, false, false, false, false, false, false, false, false, false, false, false] rfl rfl (by kernel_rfl) (fun _ _ _ h => h) (Or.inl ⟨by rfl, ?_⟩) ?_ ?_
  rotate_left
  · intro w'
    go_simp
    with_reducible rfl
  rotate_left
  · simp only [Act.put, List.setIfInBounds_toArray, List.set_cons_zero, List.set_cons_succ, i64_w, i32_w]
    rfl
  refine pure_ (i := 4) (N := some 42) (v := ?_) (a' := ?_) #[true, true, true, true, true, false, false, false, false, false, false, false, false, false, false, false, false, false, false, false, false] rfl rfl (by kernel_rfl) (fun _ _ _ h => h) (Or.inl ⟨by rfl, ?_⟩) ?_ ?_
  rotate_left
  · intro w'
    go_simp
    with_reducible rfl
  rotate_left
  · simp only [Act.put, List.setIfInBounds_toArray, List.set_cons_zero, List.set_cons_succ, i64_w, i32_w]
    rfl
  refine pure_ (i := 5) (N := some 43) (v := ?_) (a' := ?_) #[true, true, true, true, true, true, false, false, false, false, false, false, false, false, false, false, false, false, false, false, false] rfl rfl (by kernel_rfl) (fun _ _ _ h => h) (Or.inl ⟨by rfl, ?_⟩) ?_ ?_
  rotate_left
  · intro w'
    go_simp
    with_reducible rfl
  rotate_left
  · simp only [Act.put, List.setIfInBounds_toArray, List.set_cons_zero, List.set_cons_succ, i64_w, i32_w]
    rfl
  refine pure_ (i := 9) (N := some 47) (v := ?_) (a' := ?_) #[true, true, true, true, true, true, false, false, false, true, false, false, false, false, false, false, false, false, false, false, false] rfl rfl (by kernel_rfl) (fun _ _ _ h => h) (Or.inl ⟨by rfl, ?_⟩) ?_ ?_
  rotate_left
  · intro w'
    go_simp
    with_reducible rfl
  rotate_left
  · simp only [Act.put, List.setIfInBounds_toArray, List.set_cons_zero, List.set_cons_succ, i64_w, i32_w]
    rfl
  refine take_ (i := 10) (N := some 48) (v := .string (strOfNums (headB seq count))) (a' := ?_) #[true, true, true, true, true, true, false, false, false, true, true, false, false, false, false, false, false, false, false, false, false] rfl rfl (by kernel_rfl) (fun _ _ _ h => h) (yields_conv (by rfl) 33 9 (.tmp 47) rfl _ _ rfl (fun w' hS => Kd.C_string Try.underlying33 Try.underlying5 Try.underlying9 (Kd.C_below HR5.out hS))) hHeld ?_ ?_
  rotate_left
  · simp only [Act.put, List.setIfInBounds_toArray, List.set_cons_zero, List.set_cons_succ, i64_w, i32_w]
    rfl
  refine one_ (i := 6) (N := some 44) #[true, true, true, true, true, true, true, false, false, true, true, false, false, false, false, false, false, false, false, false, false] rfl rfl (by kernel_rfl) (by decide) (fun K hK => ?_)
  refine goes_ Try.func22 (by kernel_rfl) rfl #[.pointer (some ⟨gj, 0, none⟩), .int .u64 seq, .int .i64 count] (by rfl) rfl rfl (by (try simp only [List.map_toArray, List.map_cons, List.map_nil]); first | done | rfl) ?_
  with_reducible refine (head_any gj gd seq seq count w5.drew (HJ5.out.below hHeld) Hq8.out Hc16.out).mono ?_
  rintro e w6 ⟨ad6, c6, rfl, hc6, hR6, hB6⟩
  have HR6 := Lib.hid hR6
  have HB6 := Lib.hid hB6
  clear hR6 hB6
  unfold patchV
  have hfld := field_bytes 1 (some ad6) 64 c6
  refine ⟨_, rfl, ?_⟩
  refine hK.out _ _ (below_step hHeld HB6.out) (fun hHeld => ?_)
  clear hK K
  refine norm_ (a' := ?_) ?_ ?_
  rotate_left
  · show Act.put _ (some 44) _ = _
    simp only [Act.put, List.setIfInBounds_toArray, List.set_cons_zero, List.set_cons_succ, i64_w, i32_w]
    rfl
  refine pure_ (i := 7) (N := some 45) (v := ?_) (a' := ?_) #[true, true, true, true, true, true, true, true, false, true, true, false, false, false, false, false, false, false, false, false, false] rfl rfl (by kernel_rfl) (fun _ _ _ h => h) (Or.inl ⟨by rfl, ?_⟩) ?_ ?_
  rotate_left
  · intro w'
    go_simp
    with_reducible rfl
  rotate_left
  · simp only [Act.put, List.setIfInBounds_toArray, List.set_cons_zero, List.set_cons_succ, i64_w, i32_w]
    rfl
  refine one_ (i := 8) (N := some 46) #[true, true, true, true, true, true, true, true, true, true, true, false, false, false, false, false, false, false, false, false, false] rfl rfl (by kernel_rfl) (by decide) (fun K hK => ?_)
  refine value_ (by rfl) rfl (run_exec_conv rfl rfl (Kd.C_string Try.underlying33 Try.underlying5 Try.underlying9 (headC HR6.out))) ?_
  refine hK.out _ _ (hHeld) (fun hHeld => ?_)
  clear hK K
  refine norm_ (a' := ?_) ?_ ?_
  rotate_left
  · show Act.put _ (some 46) _ = _
    simp only [Act.put, List.setIfInBounds_toArray, List.set_cons_zero, List.set_cons_succ, i64_w, i32_w]
    rfl
  refine pure_ (i := 11) (N := some 49) (v := ?_) (a' := ?_) #[true, true, true, true, true, true, true, true, true, true, true, true, false, false, false, false, false, false, false, false, false] rfl rfl (by kernel_rfl) (fun _ _ _ h => h) (Or.inl ⟨by rfl, ?_⟩) ?_ ?_
  rotate_left
  · intro w'
    go_simp
    with_reducible rfl
  rotate_left
  · simp only [Act.put, List.setIfInBounds_toArray, List.set_cons_zero, List.set_cons_succ, i64_w, i32_w]
    rfl
  refine pure_ (i := 12) (N := some 50) (v := ?_) (a' := ?_) #[true, true, true, true, true, true, true, true, true, true, true, true, true, false, false, false, false, false, false, false, false] rfl rfl (by kernel_rfl) (fun _ _ _ h => h) (Or.inl ⟨by rfl, ?_⟩) ?_ ?_
  rotate_left
  · intro w'
    go_simp
    with_reducible rfl
  rotate_left
  · simp only [Act.put, List.setIfInBounds_toArray, List.set_cons_zero, List.set_cons_succ, i64_w, i32_w]
    rfl
  refine pure_ (i := 13) (N := some 51) (v := ?_) (a' := ?_) #[true, true, true, true, true, true, true, true, true, true, true, true, true, true, false, false, false, false, false, false, false] rfl rfl (by kernel_rfl) (fun _ _ _ h => h) (Or.inl ⟨by rfl, ?_⟩) ?_ ?_
  rotate_left
  · intro w'
    go_simp
    with_reducible rfl
  rotate_left
  · simp only [Act.put, List.setIfInBounds_toArray, List.set_cons_zero, List.set_cons_succ, i64_w, i32_w]
    rfl
  refine pure_ (i := 14) (N := some 52) (v := ?_) (a' := ?_) #[true, true, true, true, true, true, true, true, true, true, true, true, true, true, true, false, false, false, false, false, false] rfl rfl (by kernel_rfl) (fun _ _ _ h => h) (Or.inl ⟨by rfl, ?_⟩) ?_ ?_
  rotate_left
  · intro w'
    go_simp
    with_reducible rfl
  rotate_left
  · simp only [Act.put, List.setIfInBounds_toArray, List.set_cons_zero, List.set_cons_succ, i64_w, i32_w]
    rfl
  refine pure_ (i := 15) (N := some 53) (v := ?_) (a' := ?_) #[true, true, true, true, true, true, true, true, true, true, true, true, true, true, true, true, false, false, false, false, false] rfl rfl (by kernel_rfl) (fun _ _ _ h => h) (Or.inl ⟨by rfl, ?_⟩) ?_ ?_
  rotate_left
  · intro w'
    go_simp
    with_reducible rfl
  rotate_left
  · simp only [Act.put, List.setIfInBounds_toArray, List.set_cons_zero, List.set_cons_succ, i64_w, i32_w]
    rfl
  refine one_ (i := 16) (N := some 54) #[true, true, true, true, true, true, true, true, true, true, true, true, true, true, true, true, true, false, false, false, false] rfl rfl (by kernel_rfl) (by decide) (fun K hK => ?_)
  refine goes_ Try.func29 (by kernel_rfl) rfl #[.pointer (some ⟨gj, 0, none⟩)] (by rfl) rfl rfl (by (try simp only [List.map_toArray, List.map_cons, List.map_nil]); first | done | rfl) ?_
  with_reducible refine (room_any gj gd seq w6 (HJ5.out.below hHeld)).mono ?_
  rintro e w7 ⟨rfl, rfl⟩
  refine ⟨_, rfl, ?_⟩
  refine hK.out _ _ (hHeld) (fun hHeld => ?_)
  clear hK K
  refine norm_ (a' := ?_) ?_ ?_
  rotate_left
  · show Act.put _ (some 54) _ = _
    simp only [Act.put, List.setIfInBounds_toArray, List.set_cons_zero, List.set_cons_succ, i64_w, i32_w]
    rfl
  refine pure_ (i := 17) (N := some 55) (v := ?_) (a' := ?_) #[true, true, true, true, true, true, true, true, true, true, true, true, true, true, true, true, true, true, false, false, false] rfl rfl (by kernel_rfl) (fun _ _ _ h => h) (Or.inl ⟨by rfl, ?_⟩) ?_ ?_
  rotate_left
  · intro w'
    go_simp
    with_reducible rfl
  rotate_left
  · simp only [Act.put, List.setIfInBounds_toArray, List.set_cons_zero, List.set_cons_succ, i64_w, i32_w]
    rfl
  refine pure_ (i := 18) (N := some 56) (v := ?_) (a' := ?_) #[true, true, true, true, true, true, true, true, true, true, true, true, true, true, true, true, true, true, true, false, false] rfl rfl (by kernel_rfl) (fun _ _ _ h => h) (Or.inl ⟨by rfl, ?_⟩) ?_ ?_
  rotate_left
  · intro w'
    go_simp
    with_reducible rfl
  rotate_left
  · simp only [Act.put, List.setIfInBounds_toArray, List.set_cons_zero, List.set_cons_succ, i64_w, i32_w]
    rfl
  refine pure_ (i := 19) (N := some 4) (v := ?_) (a' := ?_) #[true, true, true, true, true, true, true, true, true, true, true, true, true, true, true, true, true, true, true, true, false] rfl rfl (by kernel_rfl) (fun _ _ _ h => h) (Or.inl ⟨by rfl, ?_⟩) ?_ ?_
  rotate_left
  · intro w'
    go_simp
    with_reducible rfl
  rotate_left
  · simp only [Act.put, List.setIfInBounds_toArray, List.set_cons_zero, List.set_cons_succ, i64_w, i32_w]
    rfl
  refine pure_ (i := 20) (N := some 5) (v := ?_) (a' := ?_) #[true, true, true, true, true, true, true, true, true, true, true, true, true, true, true, true, true, true, true, true, true] rfl rfl (by kernel_rfl) (fun _ _ _ h => h) (Or.inl ⟨by rfl, ?_⟩) ?_ ?_
  rotate_left
  · intro w'
    go_simp
    with_reducible rfl
  rotate_left
  · simp only [Act.put, List.setIfInBounds_toArray, List.set_cons_zero, List.set_cons_succ, i64_w, i32_w]
    rfl
  refine done_ (by kernel_rfl) ?_
  go_wp2_with fail
  go_ret2
  exact ⟨rfl, HJ5.out.below hHeld, HF5.out.below hHeld⟩
end Go.Proofs.Ytpbijdalfeaheaa.Tf
