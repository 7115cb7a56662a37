/- Walks and plain laws on which the claim stands, several texts joined. -/
import Derived.Test.YtpbijdalfeaheaaM9
import Derived.Test.YtpbijdalfeaheaaM3

/- meta.Lay. -/
namespace Go.Proofs.Ytpbijdalfeaheaa.Tf
open Go.RowKit Go.Proofs.YtpbijdalfeaheaaW.PrintWords Go.Proofs.YtpbijdalfeaheaaW.PrintLast Go.Proofs.YtpbijdalfeaheaaW.PrintMore
set_option linter.unusedVariables false
set_option linter.unusedSimpArgs false
theorem Bk.put {W : World} {g : Nat} {xs : List Int} (h : Bk W g xs) (k : Nat) (x : Int) : Bk (W.setCell ⟨g, k, none⟩ (.int .u8 x)) g (xs.set k x) := by
  unfold Bk at h ⊢
  refine blk_put h k (.int .u8 x) ?_
  simp [nums, List.map_set]
theorem own_put (l : List Int) (k : Nat) (hk : k < l.length) (h64 : k < 64) : (l.take k ++ List.replicate (64 - k) 0).set k l[k] = l.take (k + 1) ++ List.replicate (64 - (k + 1)) 0 := by
  have e : (l.take k).length = k := by simp; omega
  rw [List.set_append_right _ _ (by omega), e, Nat.sub_self, show 64 - k = (64 - (k + 1)) + 1 by omega, List.replicate_succ, List.set_cons_zero, List.take_succ_eq_append_getElem hk, List.append_assoc]
  rfl
/-- A row of rows of 64 bytes, its cells alone. -/
def slV (r : Raw) : Value := .slice r.2.1 64 r.2.2
def SL : Kd Raw := Kd.scalar slV (fun _ => rfl)
theorem SL_plain : Plain SL (fun r => [slV r]) := ⟨fun _ _ _ => ⟨fun h => ⟨h, rfl⟩, fun h => h.1⟩, fun _ _ _ _ _ => ⟨fun h => ⟨h, rfl⟩, fun h => h.1⟩⟩
theorem info_bytes : (Try.prog.info? 33).map (fun i => (i.zero, i.size, i.bytes)) = some (some (.slice none 0 0), 1, 24) := by kernel_rfl
theorem SL_lit (W : World) (rows : List Raw) (hm : rows.length ≤ 100000) : Kd.R SL 33 (W.alloc (.cells (encs slV rows).toArray 33)) W.heap.size (fun _ => True) (.slice (some ⟨W.heap.size, 0, none⟩) rows.length rows.length) rows :=
  Kd.R_of_own (own_lit_of W W.heap.size 33 rows (Nat.le_refl _) (by omega)) (fun _ _ => trivial)
theorem F_typed {W : World} {base n c b0 : Nat} {A : Option Addr} {xs : List Int} (h : Kd.R (Kd.int .u8) 5 W base (fun _ => True) (.slice A n c) xs) (hb : b0 ≤ base) : Kd.F (Kd.int .u8) W (okT b0 W) A n xs := by
  refine Kd.F_mono (Kd.R_F (Kd.R_bound h)) (fun k hk => ?_)
  obtain ⟨_, h2, _, q, hq, cells, hc⟩ := hk
  have : q = 5 := by simpa [Kd.int, Kd.scalar] using hq
  subst this
  exact ⟨Nat.le_trans hb h2, cells, hc⟩
theorem Says.typedB {b0 : Nat} {W W1 : World} {rows : List Raw} {xs : List (Nat × List Int)} (h : Says W (okT b0 W) rows xs) (hb : Below W.heap.size W W1) : Says W1 (okT b0 W1) rows xs :=
  h.typed (fun k _ _ hk => hb.block k (blk_lt hk))
def tagB (l : List (List Int)) : List (Nat × List Int) := l.map (fun b => (0, b))
/-- The owners' bytes; all bytes. -/
def ownB (M : Mt) : List Int := M.own ++ List.replicate 58 0
def inosB : Nat → List (Int × Int) → List (List Int)
  | 0, _ => []
  | n + 1, x :: y :: l => (inoB x ++ inoB y) :: inosB n l
  | _ + 1, _ => []
theorem inosB_snoc : ∀ (k : Nat) (l : List (Int × Int)) (h : 2 * k + 1 < l.length), inosB (k + 1) l = inosB k l ++ [inoB l[2 * k] ++ inoB l[2 * k + 1]] := by
  intro k
  induction k with
  | zero =>
    intro l h
    match l, h with
    | x :: y :: l, _ => rfl
  | succ k ih =>
    intro l h
    match l, h with
    | x :: y :: l, h =>
      have hh := ih l (by simp at h; omega)
      have e1 : inosB (k + 1 + 1) (x :: y :: l) = (inoB x ++ inoB y) :: inosB (k + 1) l := rfl
      have e2 : inosB (k + 1) (x :: y :: l) = (inoB x ++ inoB y) :: inosB k l := rfl
      rw [e1, e2, hh]
      simp [Nat.mul_add]
theorem tagB_snoc (l : List (List Int)) (b : List Int) : tagB (l ++ [b]) = tagB l ++ [(0, b)] := by simp [tagB]
def metaB (M : Mt) : List (List Int) := [List.replicate 64 0, ownB M, M.used] ++ inosB 6 M.ino
set_option maxHeartbeats 8000000 in
set_option maxRecDepth 100000 in
theorem metalay_any (ok : Nat → Prop) (A0 : Addr) (c0 : Nat) (A1 : Addr) (c1 : Nat) (A2 : Addr) (c2 : Nat) (A3 : Addr) (c3 : Nat) (M : Mt) (w : World) (h : MetaF w ok A0 c0 A1 c1 A2 c2 A3 c3 M) (hM : MtOk M) :
    Calls Try.prog 8 #[.agg geoC, .agg (metaC A0 c0 A1 c1 A2 c2 A3 c3)] w fun e w' => ∃ v, e = .returned (.tuple #[v, .int .i64 0]) ∧ (∃ rows, Kd.R SL 33 w' w.heap.size (fun _ => True) v rows ∧ Says w' (okT w.heap.size w') rows (tagB (metaB M))) ∧ Below w.heap.size w w' := by
  have HF := Lib.hid h
  have HM := Lib.hid hM
  clear h hM
  unfold geoC metaC
  go_enter Try.func8, Try.ntmps8
  go_wp2_with fail
  obtain ⟨w1, hw1⟩ : ∃ w1, (w.alloc (Obj.cells #[.int .i64 30, .int .i64 12, .int .i64 6, .int .i64 8] 25)).alloc (Obj.cells #[.slice (some A0) 16 c0, .slice (some A1) 6 c1, .slice (some A2) 64 c2, .slice (some A3) 12 c3] 36) = w1 := ⟨_, rfl⟩
  have hX1 : Boxed w #[.slice (some A0) 16 c0, .slice (some A1) 6 c1, .slice (some A2) 64 c2, .slice (some A3) 12 c3] w1 := by rw [← hw1]; exact Boxed.make w _
  rw [hw1]
  clear hw1
  refine (metaright_any _ A0 c0 A1 c1 A2 c2 A3 c3 M w1 (HF.out.below hX1.below) HM.out).mono ?_
  rintro e w2 ⟨rfl, hB2⟩
  have hX2 := hX1.step hB2
  have g0 : w2.cell? ⟨w.heap.size, 0, none⟩ = some (.int .i64 30) := blk_cell hX2.geo 0
  have g1 : w2.cell? ⟨w.heap.size, 1, none⟩ = some (.int .i64 12) := blk_cell hX2.geo 1
  have g2 : w2.cell? ⟨w.heap.size, 2, none⟩ = some (.int .i64 6) := blk_cell hX2.geo 2
  have g3 : w2.cell? ⟨w.heap.size, 3, none⟩ = some (.int .i64 8) := blk_cell hX2.geo 3
  have m0 : w2.cell? ⟨w.heap.size + 1, 0, none⟩ = some (.slice (some A0) 16 c0) := blk_cell hX2.met 0
  have m1 : w2.cell? ⟨w.heap.size + 1, 1, none⟩ = some (.slice (some A1) 6 c1) := blk_cell hX2.met 1
  have m2 : w2.cell? ⟨w.heap.size + 1, 2, none⟩ = some (.slice (some A2) 64 c2) := blk_cell hX2.met 2
  have m3 : w2.cell? ⟨w.heap.size + 1, 3, none⟩ = some (.slice (some A3) 12 c3) := blk_cell hX2.met 3
  have HX2 := Lib.hid hX2
  clear hX1 hX2 hB2
  go_wp2_with fail
  clear g0 g1 g2 g3 m0 m1 m2 m3
  refine (internlay0 A0 c0 w2 (Kd.F_now (HF.out.below HX2.out.below).rows)).mono ?_
  rintro e w3 ⟨v6, rfl, hR6, hB3⟩
  obtain ⟨A6, c6, rfl, hc6, _⟩ := Kd.R_reads hR6
  rw [List.length_replicate] at hR6 hc6 ⊢
  have Hc6 := Lib.hid hc6
  have hX3 := HX2.out.step hB3
  have HR6 := Lib.hid hR6
  have g0 : w3.cell? ⟨w.heap.size, 0, none⟩ = some (.int .i64 30) := blk_cell hX3.geo 0
  have g1 : w3.cell? ⟨w.heap.size, 1, none⟩ = some (.int .i64 12) := blk_cell hX3.geo 1
  have g2 : w3.cell? ⟨w.heap.size, 2, none⟩ = some (.int .i64 6) := blk_cell hX3.geo 2
  have g3 : w3.cell? ⟨w.heap.size, 3, none⟩ = some (.int .i64 8) := blk_cell hX3.geo 3
  have m0 : w3.cell? ⟨w.heap.size + 1, 0, none⟩ = some (.slice (some A0) 16 c0) := blk_cell hX3.met 0
  have m1 : w3.cell? ⟨w.heap.size + 1, 1, none⟩ = some (.slice (some A1) 6 c1) := blk_cell hX3.met 1
  have m2 : w3.cell? ⟨w.heap.size + 1, 2, none⟩ = some (.slice (some A2) 64 c2) := blk_cell hX3.met 2
  have m3 : w3.cell? ⟨w.heap.size + 1, 3, none⟩ = some (.slice (some A3) 12 c3) := blk_cell hX3.met 3
  have HX3 := Lib.hid hX3
  clear hX3 hB3 hR6 hc6
  have hmk := made64
  have m1a : (w3.alloc (Obj.cells (madeCells #[.int .u8 0] 64) 5)).cell? ⟨w.heap.size + 1, 1, none⟩ = some (.slice (some A1) 6 c1) := blk_cell (blk_alloc HX3.out.met _) 1
  go_wp2_with fail
  clear g0 g1 g2 g3 m0 m1 m2 m3
  clear hmk m1a
  obtain ⟨w4, hw4⟩ : ∃ w4, w3.alloc (.cells (madeCells #[.int .u8 0] 64) 5) = w4 := ⟨_, rfl⟩
  have hk4 : Bk w4 w3.heap.size (List.replicate 64 0) := by rw [← hw4]; exact bk_made w3 64
  have hB4 : Below w3.heap.size w3 w4 := by rw [← hw4]; exact below_alloc (Below.refl _ _) _
  rw [hw4]
  have Hk4 := Lib.hid hk4
  have HB4 := Lib.hid hB4
  clear hw4 hk4 hB4
  go_loopg [9, 10, 31] 6 (fun q _ _ i wr => ∃ k, k + q = 6 ∧ i = .int .i64 (k : Int) ∧ Hid (Bk wr w3.heap.size (M.own.take k ++ List.replicate (64 - k) 0)) ∧ Hid (Below w3.heap.size w3 wr))
  case atStart => exact ⟨0, rfl, rfl, Lib.hid (by simpa using Hk4.out), HB4⟩
  case round =>
    clear Hk4 HB4
    obtain ⟨k, hq, rfl, hk, hB⟩ := hrel
    cases gk with
    | zero =>
      obtain rfl : k = 6 := by omega
      have hX4 := HX3.out.step hB.out
      have g0 : wr.cell? ⟨w.heap.size, 0, none⟩ = some (.int .i64 30) := blk_cell hX4.geo 0
      have g1 : wr.cell? ⟨w.heap.size, 1, none⟩ = some (.int .i64 12) := blk_cell hX4.geo 1
      have g2 : wr.cell? ⟨w.heap.size, 2, none⟩ = some (.int .i64 6) := blk_cell hX4.geo 2
      have g3 : wr.cell? ⟨w.heap.size, 3, none⟩ = some (.int .i64 8) := blk_cell hX4.geo 3
      have m0 : wr.cell? ⟨w.heap.size + 1, 0, none⟩ = some (.slice (some A0) 16 c0) := blk_cell hX4.met 0
      have m1 : wr.cell? ⟨w.heap.size + 1, 1, none⟩ = some (.slice (some A1) 6 c1) := blk_cell hX4.met 1
      have m2 : wr.cell? ⟨w.heap.size + 1, 2, none⟩ = some (.slice (some A2) 64 c2) := blk_cell hX4.met 2
      have m3 : wr.cell? ⟨w.heap.size + 1, 3, none⟩ = some (.slice (some A3) 12 c3) := blk_cell hX4.met 3
      have HX4 := Lib.hid hX4
      clear hX4
      go_wp2_with fail
      clear g0 g1 g2 g3 m0 m1 m2 m3
      refine (clone_byteN (some A2) c2 64 M.used wr HM.out.used.len (Kd.F_now (HF.out.below HX4.out.below).used) (by omega) (by omega)).mono ?_
      rintro e w5 ⟨v7, rfl, hR7, hB5⟩
      have HX5 := Lib.hid (HX4.out.step hB5)
      obtain ⟨A7, c7, rfl, hc7, hdel⟩ := Kd.R_reads hR7
      rw [HM.out.used.len] at hR7 hc7 ⊢
      have Hc7 := Lib.hid hc7
      have HR7 := Lib.hid hR7
      have HB5 := Lib.hid hB5
      clear hdel hR7 hc7 hB5
      go_wp2_with fail
      obtain ⟨w6, hw6⟩ : ∃ w6, w5.alloc (Obj.cells #[.slice A6 64 c6, .slice (some ⟨w3.heap.size, 0, none⟩) 64 64, .slice A7 64 c7] 33) = w6 := ⟨_, rfl⟩
      have hB6 : Below w5.heap.size w5 w6 := by rw [← hw6]; exact below_alloc (Below.refl _ _) _
      have hRs : Kd.R SL 33 w6 w5.heap.size (fun _ => True) (.slice (some ⟨w5.heap.size, 0, none⟩) 3 3) [(0, A6, c6), (0, some ⟨w3.heap.size, 0, none⟩, 64), (0, A7, c7)] := by rw [← hw6]; exact SL_lit w5 [(0, A6, c6), (0, some ⟨w3.heap.size, 0, none⟩, 64), (0, A7, c7)] (by simp)
      have hS6 : Says w6 (okT w.heap.size w6) [(0, A6, c6), (0, some ⟨w3.heap.size, 0, none⟩, 64), (0, A7, c7)] (tagB [List.replicate 64 0, ownB M, M.used]) := by
        have hBB : Below wr.heap.size wr w6 := below_step HB5.out hB6
        have hown : ownB M = M.own.take 6 ++ List.replicate (64 - 6) 0 := by
          unfold ownB
          rw [List.take_of_length_le (by rw [HM.out.olen]; exact Nat.le_refl _)]
        have h1 : Says w6 (okT w.heap.size w6) [(0, A6, c6)] [(0, List.replicate 64 0)] :=
          Says.one rfl (by simp) Hc6.out (F_typed (Kd.R_below HR6.out (below_step (below_step (show Below w3.heap.size w3 wr from hB.out) HB5.out) hB6)) HX2.out.below.size)
        have h2 : Says w6 (okT w.heap.size w6) [(0, some ⟨w3.heap.size, 0, none⟩, 64)] [(0, ownB M)] := by
          have hl : (ownB M).length = 64 := by unfold ownB; simp [HM.out.olen]
          have hR := R_of_bk hk.out (base := w3.heap.size) (Nat.le_refl _) (by rw [← hown, hl]; omega)
          rw [← hown, hl] at hR
          exact Says.one rfl hl (Nat.le_refl _) (F_typed (Kd.R_below (Kd.R_mono hR (fun _ _ => trivial)) hBB) HX3.out.below.size)
        have h3 : Says w6 (okT w.heap.size w6) [(0, A7, c7)] [(0, M.used)] :=
          Says.one rfl HM.out.used.len Hc7.out (F_typed (Kd.R_below HR7.out hB6) HX4.out.below.size)
        exact (h1.append h2).append h3
      have hX6 := HX5.out.step hB6
      rw [hw6]
      have HX6 := Lib.hid hX6
      have HS6 := Lib.hid hS6
      have HRs := Lib.hid hRs
      have Hsz := Lib.hid HX5.out.below.size
      have HB6 := Lib.hid hB6
      clear hw6 hB6 hRs hS6 hX6
      go_loopg [11, 12, 13, 14, 15, 16] 6 (fun q v11 i _ _ _ _ wr => ∃ k rows, k + q = 6 ∧ i = .int .i64 (2 * (k : Int)) ∧ Hid (Kd.R SL 33 wr w5.heap.size (fun _ => True) v11 rows) ∧ Hid (Says wr (okT w.heap.size wr) rows (tagB ([List.replicate 64 0, ownB M, M.used] ++ inosB k M.ino))) ∧ Hid (Below w5.heap.size w5 wr))
      case atStart => exact ⟨0, _, rfl, rfl, HRs, HS6, HB6⟩
      case round =>
        clear HRs HS6 HB6 HX6 HB5 HR7 HX4 hB hk
        obtain ⟨k, rows, hq, rfl, hR, hS, hB⟩ := hrel
        have hX := HX5.out.step hB.out
        cases gk with
        | zero =>
          obtain rfl : k = 6 := by omega
          have d1 : decide (2 * ((6 : Nat) : Int) < 12) = false := rfl
          have g0 : wr.cell? ⟨w.heap.size, 0, none⟩ = some (.int .i64 30) := blk_cell hX.geo 0
          have g1 : wr.cell? ⟨w.heap.size, 1, none⟩ = some (.int .i64 12) := blk_cell hX.geo 1
          have g2 : wr.cell? ⟨w.heap.size, 2, none⟩ = some (.int .i64 6) := blk_cell hX.geo 2
          have g3 : wr.cell? ⟨w.heap.size, 3, none⟩ = some (.int .i64 8) := blk_cell hX.geo 3
          have m0 : wr.cell? ⟨w.heap.size + 1, 0, none⟩ = some (.slice (some A0) 16 c0) := blk_cell hX.met 0
          have m1 : wr.cell? ⟨w.heap.size + 1, 1, none⟩ = some (.slice (some A1) 6 c1) := blk_cell hX.met 1
          have m2 : wr.cell? ⟨w.heap.size + 1, 2, none⟩ = some (.slice (some A2) 64 c2) := blk_cell hX.met 2
          have m3 : wr.cell? ⟨w.heap.size + 1, 3, none⟩ = some (.slice (some A3) 12 c3) := blk_cell hX.met 3
          have HX := Lib.hid hX
          clear hX
          go_wp2_with fail
          clear d1 g0 g1 g2 g3 m0 m1 m2 m3
          go_ret2
          exact ⟨_, rfl, ⟨rows, Kd.R_lower hR.out Hsz.out, hS.out⟩, HX.out.below⟩
        | succ q =>
          have d1 : decide (2 * (k : Int) < 12) = true := decide_eq_true (by omega)
          have s2 : wrap64 (2 * (k : Int) + 1) = 2 * (k : Int) + 1 := by unfold wrap64; omega
          have s3 : wrap64 (2 * (k : Int) + 2) = 2 * (k : Int) + 2 := by unfold wrap64; omega
          have t1 : (2 * (k : Int)).toNat = 2 * k := by omega
          have t2 : (2 * (k : Int) + 1).toNat = 2 * k + 1 := by omega
          have b1 : 0 ≤ 2 * (k : Int) := by omega
          have b2 : 2 * (k : Int) < 12 := by omega
          have b3 : 0 ≤ 2 * (k : Int) + 1 := by omega
          have b4 : 2 * (k : Int) + 1 < 12 := by omega
          have hkl : 2 * k + 1 < M.ino.length := by rw [HM.out.ilen]; omega
          have hsn := inosB_snoc k M.ino hkl
          have hat := flat_at (Kd.F_now (HF.out.below hX.below).ino) (2 * k) (by omega)
          obtain ⟨x, hx⟩ : ∃ x, M.ino[2 * k] = x := ⟨_, rfl⟩
          obtain ⟨y, hy⟩ : ∃ y, M.ino[2 * k + 1] = y := ⟨_, rfl⟩
          have Hokx := Lib.hid (show InoOk x from HM.out.ino x (by rw [← hx]; exact List.getElem_mem (by omega)))
          have Hoky := Lib.hid (show InoOk y from HM.out.ino y (by rw [← hy]; exact List.getElem_mem hkl))
          rw [hx] at hat
          rw [hx, hy] at hsn
          have Hsn := Lib.hid hsn
          have hload := Lib.hid (load_any wr (A3.add (2 * k * 14)) 83 (inoC x) _ hat Try.underlying83 rfl (by rw [sz_ino]; rfl))
          have hca : ∀ z : Int × Int, (inoC z).toArray = #[.int .u8 z.1, .int .u8 0, .int .i64 0, .int .i64 z.2, .int .i64 0, .int .i64 0, .int .i64 0, .int .i64 0, .int .i64 0, .int .i64 0, .int .i64 0, .int .i64 0, .int .i64 0, .int .i64 0] := fun _ => rfl
          rw [hca] at hload
          have Hca := Lib.hid hca
          have Hy := Lib.hid hy
          have g0 : wr.cell? ⟨w.heap.size, 0, none⟩ = some (.int .i64 30) := blk_cell hX.geo 0
          have g1 : wr.cell? ⟨w.heap.size, 1, none⟩ = some (.int .i64 12) := blk_cell hX.geo 1
          have g2 : wr.cell? ⟨w.heap.size, 2, none⟩ = some (.int .i64 6) := blk_cell hX.geo 2
          have g3 : wr.cell? ⟨w.heap.size, 3, none⟩ = some (.int .i64 8) := blk_cell hX.geo 3
          have m0 : wr.cell? ⟨w.heap.size + 1, 0, none⟩ = some (.slice (some A0) 16 c0) := blk_cell hX.met 0
          have m1 : wr.cell? ⟨w.heap.size + 1, 1, none⟩ = some (.slice (some A1) 6 c1) := blk_cell hX.met 1
          have m2 : wr.cell? ⟨w.heap.size + 1, 2, none⟩ = some (.slice (some A2) 64 c2) := blk_cell hX.met 2
          have m3 : wr.cell? ⟨w.heap.size + 1, 3, none⟩ = some (.slice (some A3) 12 c3) := blk_cell hX.met 3
          have HX := Lib.hid hX
          clear hX hat hx hy hsn hca
          go_wp2_with (first | ((with_reducible refine gate_load 83 (.tmp 59) rfl ?_); refine wpList_load_eq rfl _ _ rfl _ _ rfl hload.out ?_))
          clear hload g0 g1 g2 g3 m0 m1 m2 m3
          refine (inolay_any x wr Hokx.out).mono ?_
          rintro e w7 ⟨v13, rfl, hR13, hB7⟩
          obtain ⟨A13, c13, rfl, hc13, hdel⟩ := Kd.R_reads hR13
          rw [inoB_len] at hR13 hc13 ⊢
          have hX7 := HX.out.step hB7
          have hat := flat_at (Kd.F_now (HF.out.below hX7.below).ino) (2 * k + 1) hkl
          rw [Hy.out] at hat
          have hload := Lib.hid (load_any w7 (A3.add ((2 * k + 1) * 14)) 83 (inoC y) _ hat Try.underlying83 rfl (by rw [sz_ino]; rfl))
          rw [Hca.out] at hload
          have HR13 := Lib.hid hR13
          have HB7 := Lib.hid hB7
          have g0 : w7.cell? ⟨w.heap.size, 0, none⟩ = some (.int .i64 30) := blk_cell hX7.geo 0
          have g1 : w7.cell? ⟨w.heap.size, 1, none⟩ = some (.int .i64 12) := blk_cell hX7.geo 1
          have g2 : w7.cell? ⟨w.heap.size, 2, none⟩ = some (.int .i64 6) := blk_cell hX7.geo 2
          have g3 : w7.cell? ⟨w.heap.size, 3, none⟩ = some (.int .i64 8) := blk_cell hX7.geo 3
          have m0 : w7.cell? ⟨w.heap.size + 1, 0, none⟩ = some (.slice (some A0) 16 c0) := blk_cell hX7.met 0
          have m1 : w7.cell? ⟨w.heap.size + 1, 1, none⟩ = some (.slice (some A1) 6 c1) := blk_cell hX7.met 1
          have m2 : w7.cell? ⟨w.heap.size + 1, 2, none⟩ = some (.slice (some A2) 64 c2) := blk_cell hX7.met 2
          have m3 : w7.cell? ⟨w.heap.size + 1, 3, none⟩ = some (.slice (some A3) 12 c3) := blk_cell hX7.met 3
          have HX7 := Lib.hid hX7
          clear hX7 hat hR13 hB7 hdel hc13 Hy hkl
          go_wp2_with (first | ((with_reducible refine gate_load 83 (.tmp 69) rfl ?_); refine wpList_load_eq rfl _ _ rfl _ _ rfl hload.out ?_))
          clear hload g0 g1 g2 g3 m0 m1 m2 m3
          refine (inolay_any y w7 Hoky.out).mono ?_
          rintro e w8 ⟨v15, rfl, hR15, hB8⟩
          obtain ⟨A15, c15, rfl, hc15, hC15⟩ := Kd.R_reads hR15
          rw [inoB_len] at hC15 ⊢
          have hB78 := below_step HB7.out hB8
          obtain ⟨v9, w9, hap9, hR9, hg9⟩ := (plain_int .u8).append w8 wr.heap.size 33 33 5 (.int .u8 0) 1 Try.underlying33 info_u8 rfl (by decide) (.slice A13 32 c13) (inoB x) (inoB y) (Kd.R_below HR13.out hB8) A15 32 c15 (by decide) hC15 (by rw [inoB_len]; omega) (by rw [inoB_len]; unfold maxLen; omega) hB78.size
          have hB9 : Below wr.heap.size wr w9 := pw_below_grown hB78 _ hB78.size hg9 (fun k hk => R_base' HR13.out k hk)
          obtain ⟨A9, c9, rfl, hc9, hdel⟩ := Kd.R_reads hR9
          have hl64 : (inoB x ++ inoB y).length = 64 := by rw [List.length_append, inoB_len, inoB_len]
          rw [hl64] at hR9 hc9 hap9
          have hRr := Kd.R_alloc (Kd.R_below hR.out hB9) (.cells #[slV (0, A9, c9)] 33)
          have hrl : rows.length ≤ 9 := by
            rw [hS.out.1]
            have : ∀ (k : Nat) (l : List (Int × Int)), (inosB k l).length ≤ k := by
              intro k
              induction k with
              | zero => intro l; simp [inosB]
              | succ k ih =>
                intro l
                match l with
                | [] => simp [inosB]
                | [_] => simp [inosB]
                | x :: y :: l => have := ih l; simp [inosB]; omega
            have := this k M.ino
            simp [tagB]; omega
          obtain ⟨v10, w10, hap10, hR10, hg10⟩ := SL_plain.append (w9.alloc (.cells #[slV (0, A9, c9)] 33)) w5.heap.size 44 44 33 (.slice none 0 0) 24 Try.underlying44 info_bytes rfl (by decide) u11 rows [(0, A9, c9)] hRr (some ⟨w9.heap.size, 0, none⟩) 1 1 (by decide) (Kd.F_now (Kd.R_F (SL_lit w9 [(0, A9, c9)] (by simp)))) (by omega) (by unfold maxLen; omega) (by have h1 := hB.out.size; have h2 := hB9.size; simp; omega)
          have hB10 : Below w5.heap.size w5 w10 := pw_below_grown (below_alloc (below_step hB.out hB9) _) _ (below_size (below_alloc (below_step hB.out hB9) _)) hg10 (fun k hk => R_base' hR.out k hk)
          have hS10 : Says w10 (okT w.heap.size w10) (rows ++ [(0, A9, c9)]) (tagB ([List.replicate 64 0, ownB M, M.used] ++ inosB (k + 1) M.ino)) := by
            rw [Hsn.out, ← List.append_assoc, tagB_snoc]
            have h1 := (hS.out.typedB hB9).append (Says.one (r := (0, A9, c9)) (x := (0, inoB x ++ inoB y)) rfl hl64 hc9 (F_typed hR9 HX.out.below.size))
            have h2 := h1.typedB (below_alloc (Below.refl _ _) (.cells #[slV (0, A9, c9)] 33))
            exact h2.typed (fun k cells _ hk => hg10.block k (blk_lt hk) (Kd.R_ne hRr hk (by decide)))
          have Hap9 := Lib.hid hap9
          have Hap10 := Lib.hid hap10
          have HR10 := Lib.hid hR10
          have HB10 := Lib.hid hB10
          have HS10 := Lib.hid hS10
          unfold slV at Hap10
          clear hR15 hB8 hc15 hC15 hB78 hap9 hR9 hg9 hB9 hc9 hdel hl64 hRr hrl hap10 hR10 hg10 hB10 hS10
          go_wp2_with (first | ((with_reducible refine gate_builtin (b := .append) (xs := #[.tmp 75, .tmp 76]) rfl ?_); at_builtin; refine wpList_append_eq rfl (.tmp 75) (.tmp 76) 33 rfl _ _ _ rfl rfl Hap9.out ?_) | ((with_reducible refine gate_builtin (b := .append) (xs := #[.tmp 74, .tmp 78]) rfl ?_); at_builtin; refine wpList_append_eq rfl (.tmp 74) (.tmp 78) 44 rfl _ _ _ rfl rfl Hap10.out ?_))
          go_roundg q
          case measure => omega
          case rel => exact ⟨k + 1, _, by omega, by go_num, HR10, HS10, HB10⟩
    | succ q =>
      have d1 : decide ((k : Int) < 6) = true := decide_eq_true (by omega)
      have q0 : 0 ≤ (k : Int) := by omega
      have q1 : (k : Int) < 6 := by omega
      have q2 : (k : Int) < 64 := by omega
      have hkl : k < M.own.length := by rw [HM.out.olen]; omega
      obtain ⟨ad', e, hc0⟩ := at_int (Kd.F_now (HF.out.below (below_step HX3.out.below hB.out)).own) k hkl
      injection e with e
      subst e
      have hnew := hk.out.put k M.own[k]
      rw [own_put M.own k hkl (by omega)] at hnew
      have hok := HM.out.own M.own[k] (List.getElem_mem hkl)
      have hlen : (M.own.take k ++ List.replicate (64 - k) (0 : Int)).length = 64 := by simp; omega
      have hc1 : ∃ v, wr.cell? ⟨w3.heap.size, k, none⟩ = some v := by
        rw [blk_cell hk.out]
        exact ⟨_, Array.getElem?_eq_getElem (by simp [nums, hlen]; omega)⟩
      have hf1 : wr.frozen? ⟨w3.heap.size, k, none⟩ = false := blk_frozen hk.out k
      obtain ⟨x, hx⟩ : ∃ x, M.own[k] = x := ⟨_, rfl⟩
      rw [hx] at hc0 hnew hok
      have hcv : IntKind.u8.wrap x = x := by simp [IntKind.wrap, IntKind.bits, IntKind.signed]; omega
      obtain ⟨v, hc1⟩ := hc1
      have Hnew := Lib.hid hnew
      have HBn := Lib.hid (hB.out.setCell (p := ⟨w3.heap.size, k, none⟩) (Nat.le_refl _) (.int .u8 x))
      clear hx hnew hlen hok hkl
      go_wp2_with fail
      go_roundg q
      case measure => omega
      case rel => exact ⟨k + 1, by omega, by go_num, Hnew, HBn⟩
end Go.Proofs.Ytpbijdalfeaheaa.Tf

/- Rows in a block of their own. -/
namespace Go.Proofs.Ytpbijdalfeaheaa.Tf
open Go.RowKit Go.Proofs.YtpbijdalfeaheaaW.PrintWords Go.Proofs.YtpbijdalfeaheaaW.PrintLast Go.Proofs.YtpbijdalfeaheaaW.PrintMore
set_option linter.unusedVariables false
set_option linter.unusedSimpArgs false
/-- A block whose first cells are these elements'. -/
def RowB {α : Type} (W : World) (g : Nat) (e : TypeId) (enc : α → List Value) (xs : List α) : Prop := ∃ tail : List Value, W.heap[g]? = some (.cells (xs.flatMap enc ++ tail).toArray e (0, 0))
section
variable {α : Type} {d : Kd α} {enc : α → List Value} {n g : Nat} {e : TypeId} {W W1 : World} {xs : List α}
theorem RowB.lt (h : RowB W g e enc xs) : g < W.heap.size := by
  obtain ⟨t, h⟩ := h
  exact blk_lt h
theorem RowB.step (h : RowB W g e enc xs) (hm : W1.heap[g]? = W.heap[g]?) : RowB W1 g e enc xs := by
  obtain ⟨t, h⟩ := h
  exact ⟨t, hm.trans h⟩
theorem RowB.below (h : RowB W g e enc xs) (hb : Below W.heap.size W W1) : RowB W1 g e enc xs := h.step (hb.block g h.lt)
theorem RowB.far (h : RowB W g e enc xs) {k : Nat} (hk : g ≠ k) (i : Nat) (u : Value) : RowB (W.setCell ⟨k, i, none⟩ u) g e enc xs := h.step (Below.heap_setCell W ⟨k, i, none⟩ u g hk)
theorem RowB.whole (h : W.heap[g]? = some (.cells (xs.flatMap enc).toArray e (0, 0))) : RowB W g e enc xs := ⟨[], by rw [List.append_nil]; exact h⟩
theorem RowB.ne {β : Type} {enc' : β → List Value} {g' : Nat} {e' : TypeId} {ys : List β} (h : RowB W g e enc xs) (h' : RowB W g' e' enc' ys) (he : e ≠ e') : g ≠ g' := by
  rintro rfl
  obtain ⟨t, h⟩ := h
  obtain ⟨t', h'⟩ := h'
  rw [h] at h'
  injection h' with h'
  injection h' with _ h'
  exact he h'
theorem RowB.ne_blk {g' : Nat} {e' : TypeId} {cs : Array Value} (h : RowB W g e enc xs) (h' : W.heap[g']? = some (.cells cs e' (0, 0))) (he : e ≠ e') : g ≠ g' := by
  rintro rfl
  obtain ⟨t, h⟩ := h
  rw [h] at h'
  injection h' with h'
  injection h' with _ h'
  exact he h'
theorem RowB.frozen (h : RowB W g e enc xs) (i : Nat) : W.frozen? ⟨g, i, none⟩ = false := by
  obtain ⟨t, h⟩ := h
  exact blk_frozen h i
theorem RowB.cell (h : RowB W g e enc xs) (hn : ∀ x, (enc x).length = n) (k j : Nat) (hk : k < xs.length) (hj : j < n) : W.cell? ⟨g, k * n + j, none⟩ = (enc xs[k])[j]? := by
  obtain ⟨t, h⟩ := h
  rw [blk_cell h]
  have hl : (xs.flatMap enc).length = xs.length * n := flat_len xs (fun x _ => hn x)
  have hlt : k * n + j < xs.length * n := by
    have := Nat.mul_le_mul_right n (show k + 1 ≤ xs.length from hk)
    rw [Nat.succ_mul] at this
    omega
  have e2 := flat_get xs (fun x _ => hn x) k hk
  rw [List.getElem?_toArray, List.getElem?_append_left (by omega), ← e2, List.getElem?_take_of_lt hj, List.getElem?_drop]
theorem RowB.C (h : RowB W g e enc xs) (hp : Plain d enc) (hn : ∀ x, (enc x).length = d.sz) (hm : xs.length ≤ 100000) : d.C W (some ⟨g, 0, none⟩) xs.length xs := by
  refine ⟨rfl, by omega, fun _ => ⟨_, rfl, fun j p hj => ?_⟩⟩
  obtain ⟨hjl, rfl⟩ := List.getElem?_eq_some_iff.1 hj
  refine ⟨enc xs[j], hn _, (hp.K _ _ _).2 ⟨rfl, hn _⟩, fun i u hi => ?_⟩
  have hil : i < d.sz := by have := (List.getElem?_eq_some_iff.1 hi).1; rw [hn] at this; exact this
  rw [add_plain, h.cell hn j i hjl hil, hi]
theorem RowB.F (h : RowB W g e enc xs) (hp : Plain d enc) (hn : ∀ x, (enc x).length = d.sz) (hm : xs.length ≤ 100000) (ok : Nat → Prop) (hok : ok g) : Kd.F d W ok (some ⟨g, 0, none⟩) xs.length xs :=
  fun W' hW => (h.step (hW g hok h.lt)).C hp hn hm
theorem R_B {base : Nat} {ok : Nat → Prop} {v : Value} (hp : Plain d enc) (hn : ∀ x, (enc x).length = d.sz) (hs : 0 < d.sz) (h : d.R e W base ok v xs) (h0 : 0 < xs.length) : ∃ g cap, v = .slice (some ⟨g, 0, none⟩) xs.length cap ∧ xs.length ≤ cap ∧ base ≤ g ∧ RowB W g e enc xs := by
  obtain ⟨_, inner, ho, hr⟩ := h
  obtain ⟨hlen, hrow⟩ := ho
  rcases hrow with ⟨_, hn0⟩ | ⟨g, cap, cur, rfl, hg, hb, hnc, hcm, hcs, htk⟩
  · omega
  · refine ⟨g, cap, rfl, hnc, hg, cur.toList.drop (xs.length * d.sz), ?_⟩
    have hfl : (xs.flatMap enc).length = xs.length * d.sz := flat_len xs (fun x _ => hn x)
    have hinner : inner = xs.flatMap enc := by
      apply List.ext_getElem?
      intro k
      by_cases hk : k < xs.length * d.sz
      · have hkr : k / d.sz < xs.length := (Nat.div_lt_iff_lt_mul hs).2 hk
        have e1 := ((hp.M _ _ _ _ _).1 (hr.2 (k / d.sz) _ (List.getElem?_eq_getElem hkr))).1
        have e2 := flat_get xs (fun x _ => hn x) (k / d.sz) hkr
        have hm : k % d.sz < d.sz := Nat.mod_lt _ hs
        have e3 : ∀ l : List Value, ((l.drop (k / d.sz * d.sz)).take d.sz)[k % d.sz]? = l[k]? := fun l => by
          rw [List.getElem?_take_of_lt hm, List.getElem?_drop, Nat.mul_comm, Nat.div_add_mod]
        rw [← e3 inner, ← e3 (xs.flatMap enc), e1, e2]
      · rw [List.getElem?_eq_none (by omega), List.getElem?_eq_none (by omega)]
    rw [← hinner, ← htk, List.take_append_drop]
    exact hb
theorem RowB.set (h : RowB W g e enc xs) (hn : ∀ x, (enc x).length = n) (k : Nat) (hk : k < xs.length) (y : α) {ty : TypeId} (hi : (Try.prog.info? ty).map (·.size) = some n) (h1 : ∀ v ∈ enc y, v.oneCell' = true) : ∃ cells, (Instr.storeAt ty (.pointer (some ⟨g, k * n, none⟩)) (.agg (enc y).toArray)).run Try.prog W = .ok () (W.setRow g cells) ∧ RowB (W.setRow g cells) g e enc (xs.set k y) := by
  obtain ⟨t, h⟩ := h
  have hl : (xs.flatMap enc).length = xs.length * n := flat_len xs (fun x _ => hn x)
  have hlt : k * n + n ≤ xs.length * n := by
    have := Nat.mul_le_mul_right n (show k + 1 ≤ xs.length from hk)
    rw [Nat.succ_mul] at this
    omega
  refine ⟨_, store_mid h (by rw [hn]; exact hi) (by rw [hn, List.length_append, hl]; omega) h1, t, ?_⟩
  have h2 := setRow_heap W g _ ((xs.flatMap enc ++ t).take (k * n) ++ enc y ++ (xs.flatMap enc ++ t).drop (k * n + (enc y).length)).toArray _ _ h
  have e1 : ((xs.flatMap enc ++ t).take (k * n) ++ enc y ++ (xs.flatMap enc ++ t).drop (k * n + (enc y).length)) = (xs.set k y).flatMap enc ++ t := by
    rw [← flat_set xs (fun x _ => hn x) k y hk, hn, List.take_append_of_le_length (by omega), List.drop_append_of_le_length (by omega)]
    simp only [List.append_assoc]
  rw [e1] at h2
  rw [e1]
  exact h2
theorem RowB.put1 (h : RowB W g e enc xs) (hn : ∀ x, (enc x).length = 1) (k : Nat) (hk : k < xs.length) (y : α) (u : Value) (hu : enc y = [u]) : RowB (W.setCell ⟨g, k, none⟩ u) g e enc (xs.set k y) := by
  obtain ⟨t, h⟩ := h
  have hl : (xs.flatMap enc).length = xs.length * 1 := flat_len xs (fun x _ => hn x)
  refine ⟨t, blk_put h k u ?_⟩
  have e1 := flat_set xs (fun x _ => hn x) k y hk
  rw [hu, Nat.mul_one] at e1
  rw [List.setIfInBounds_toArray, List.set_append_left _ _ (by omega), ← e1, List.set_eq_take_append_cons_drop, if_pos (by omega)]
  simp
end
end Go.Proofs.Ytpbijdalfeaheaa.Tf

/- What is known, its four rows in blocks of their own. -/
namespace Go.Proofs.Ytpbijdalfeaheaa.Tf
open Go.RowKit Go.Proofs.YtpbijdalfeaheaaW.PrintWords Go.Proofs.YtpbijdalfeaheaaW.PrintLast Go.Proofs.YtpbijdalfeaheaaW.PrintMore
set_option linter.unusedVariables false
set_option linter.unusedSimpArgs false
theorem sz_meta : (Try.prog.info? 36).map (·.size) = some 4 := by kernel_rfl
def i64C (x : Int) : List Value := [.int .i64 x]
def u8C (x : Int) : List Value := [.int .u8 x]
structure MetaB (W : World) (base : Nat) (g0 c0 g1 c1 g2 c2 g3 c3 : Nat) (M : Mt) : Prop where
  cap : 16 ≤ c0 ∧ 6 ≤ c1 ∧ 64 ≤ c2 ∧ 12 ≤ c3
  lo : base ≤ g0 ∧ base ≤ g1 ∧ base ≤ g2 ∧ base ≤ g3
  rows : RowB W g0 122 rowC rows0
  own : RowB W g1 3 i64C M.own
  used : RowB W g2 5 u8C M.used
  ino : RowB W g3 83 inoC M.ino
theorem MetaB.below {W W1 : World} {base g0 c0 g1 c1 g2 c2 g3 c3 : Nat} {M : Mt} (h : MetaB W base g0 c0 g1 c1 g2 c2 g3 c3 M) (hb : Below W.heap.size W W1) : MetaB W1 base g0 c0 g1 c1 g2 c2 g3 c3 M :=
  ⟨h.cap, h.lo, h.rows.below hb, h.own.below hb, h.used.below hb, h.ino.below hb⟩
theorem MetaB.lower {W : World} {base base' g0 c0 g1 c1 g2 c2 g3 c3 : Nat} {M : Mt} (h : MetaB W base g0 c0 g1 c1 g2 c2 g3 c3 M) (hb : base' ≤ base) : MetaB W base' g0 c0 g1 c1 g2 c2 g3 c3 M :=
  ⟨h.cap, ⟨Nat.le_trans hb h.lo.1, Nat.le_trans hb h.lo.2.1, Nat.le_trans hb h.lo.2.2.1, Nat.le_trans hb h.lo.2.2.2⟩, h.rows, h.own, h.used, h.ino⟩
theorem MetaB.F {W : World} {base g0 c0 g1 c1 g2 c2 g3 c3 : Nat} {M : Mt} (h : MetaB W base g0 c0 g1 c1 g2 c2 g3 c3 M) (hM : MtOk M) : MetaF W (fun k => base ≤ k) ⟨g0, 0, none⟩ c0 ⟨g1, 0, none⟩ c1 ⟨g2, 0, none⟩ c2 ⟨g3, 0, none⟩ c3 M := by
  have l2 : M.used.length = 64 := hM.used.len
  refine ⟨h.cap, ?_, ?_, ?_, ?_⟩
  · exact h.rows.F (show Plain RK rowC from plain_flat 2 rowC _) (fun _ => rfl) (by rw [rows0_len]; decide) _ h.lo.1
  · have := h.own.F (plain_int .i64) (fun _ => rfl) (by rw [hM.olen]; decide) (fun k => base ≤ k) h.lo.2.1
    rwa [hM.olen] at this
  · have := h.used.F (plain_int .u8) (fun _ => rfl) (by rw [l2]; decide) (fun k => base ≤ k) h.lo.2.2.1
    rwa [l2] at this
  · have := h.ino.F (show Plain IK inoC from plain_flat 14 inoC _) (fun _ => rfl) (by rw [hM.ilen]; decide) (fun k => base ≤ k) h.lo.2.2.2
    rwa [hM.ilen] at this
theorem clone_intN (A0 : Option Addr) (c0 m : Nat) (xs : List Int) (w : World) (hm : xs.length = m) (hr : Kd.C (Kd.int .i64) w A0 m xs) (h0 : 0 < m) (hl : m ≤ 4096) :
    Calls Try.prog 51 #[.slice A0 m c0] w fun e w' => ∃ v, e = .returned v ∧ Kd.R (Kd.int .i64) 3 w' w.heap.size (fun _ => True) v xs ∧ Below w.heap.size w w' := by
  subst hm; exact clone_int A0 c0 xs w hr h0 hl
theorem clone_rowN (A0 : Option Addr) (c0 m : Nat) (xs : List (Int × Int)) (w : World) (hm : xs.length = m) (hr : Kd.C RK w A0 m xs) (h0 : 0 < m) (hl : m ≤ 4096) :
    Calls Try.prog 50 #[.slice A0 m c0] w fun e w' => ∃ v, e = .returned v ∧ Kd.R RK 122 w' w.heap.size (fun _ => True) v xs ∧ Below w.heap.size w w' := by
  subst hm; exact clone_row A0 c0 xs w hr h0 hl
theorem clone_inodeN (A0 : Option Addr) (c0 m : Nat) (xs : List (Int × Int)) (w : World) (hm : xs.length = m) (hr : Kd.C IK w A0 m xs) (h0 : 0 < m) (hl : m ≤ 4096) :
    Calls Try.prog 52 #[.slice A0 m c0] w fun e w' => ∃ v, e = .returned v ∧ Kd.R IK 83 w' w.heap.size (fun _ => True) v xs ∧ Below w.heap.size w w' := by
  subst hm; exact clone_inode A0 c0 xs w hr h0 hl
end Go.Proofs.Ytpbijdalfeaheaa.Tf

/- meta.Copy. -/
namespace Go.Proofs.Ytpbijdalfeaheaa.Tf
open Go.RowKit Go.Proofs.YtpbijdalfeaheaaW.PrintWords Go.Proofs.YtpbijdalfeaheaaW.PrintLast Go.Proofs.YtpbijdalfeaheaaW.PrintMore
set_option linter.unusedVariables false
set_option linter.unusedSimpArgs false
set_option maxHeartbeats 4000000 in
set_option maxRecDepth 100000 in
theorem metacopy_any (ok : Nat → Prop) (A0 : Addr) (c0 : Nat) (A1 : Addr) (c1 : Nat) (A2 : Addr) (c2 : Nat) (A3 : Addr) (c3 : Nat) (M : Mt) (w : World) (h : MetaF w ok A0 c0 A1 c1 A2 c2 A3 c3 M) (hM : MtOk M) :
    Calls Try.prog 28 #[.agg (metaC A0 c0 A1 c1 A2 c2 A3 c3)] w fun e w' => ∃ g0 k0 g1 k1 g2 k2 g3 k3, e = .returned (.agg (metaC ⟨g0, 0, none⟩ k0 ⟨g1, 0, none⟩ k1 ⟨g2, 0, none⟩ k2 ⟨g3, 0, none⟩ k3)) ∧ MetaB w' w.heap.size g0 k0 g1 k1 g2 k2 g3 k3 M ∧ Below w.heap.size w w' := by
  have HM := Lib.hid hM
  clear hM
  unfold metaC
  go_enter Try.func28, Try.ntmps28
  go_wp2_with fail
  obtain ⟨w1, hw1⟩ : ∃ w1, (w.alloc (Obj.cells #[.slice (some A0) 16 c0, .slice (some A1) 6 c1, .slice (some A2) 64 c2, .slice (some A3) 12 c3] 36)).alloc (Obj.cells #[.slice none 0 0, .slice none 0 0, .slice none 0 0, .slice none 0 0] 36) = w1 := ⟨_, rfl⟩
  have hB : Below w.heap.size w w1 := by rw [← hw1]; exact below_alloc (below_alloc (Below.refl _ _) _) _
  have hm : w1.heap[w.heap.size]? = some (.cells #[.slice (some A0) 16 c0, .slice (some A1) 6 c1, .slice (some A2) 64 c2, .slice (some A3) 12 c3] 36 (0, 0)) := by rw [← hw1]; exact blk_alloc (blk_new _ _) _
  have hz : w1.heap[w.heap.size + 1]? = some (.cells #[.slice none 0 0, .slice none 0 0, .slice none 0 0, .slice none 0 0] 36 (0, 0)) := by
    rw [← hw1]
    have := blk_new (w.alloc (Obj.cells #[.slice (some A0) 16 c0, .slice (some A1) 6 c1, .slice (some A2) 64 c2, .slice (some A3) 12 c3] 36)) (Obj.cells #[.slice none 0 0, .slice none 0 0, .slice none 0 0, .slice none 0 0] 36)
    simpa using this
  rw [hw1]
  clear hw1
  have h1 := h.below hB
  have HF0 := Lib.hid (Kd.F_now h1.rows)
  have HF1 := Lib.hid (Kd.F_now h1.own)
  have HF2 := Lib.hid (Kd.F_now h1.used)
  have HF3 := Lib.hid (Kd.F_now h1.ino)
  have Hm0 : Hid (∀ w', Below w1.heap.size w1 w' → w'.cell? ⟨w.heap.size, 0, none⟩ = some (.slice (some A0) 16 c0)) := Lib.hid (fun w' hS => blk_cell (blk_below hm hS) 0)
  have Hm1 : Hid (∀ w', Below w1.heap.size w1 w' → w'.cell? ⟨w.heap.size, 1, none⟩ = some (.slice (some A1) 6 c1)) := Lib.hid (fun w' hS => blk_cell (blk_below hm hS) 1)
  have Hm2 : Hid (∀ w', Below w1.heap.size w1 w' → w'.cell? ⟨w.heap.size, 2, none⟩ = some (.slice (some A2) 64 c2)) := Lib.hid (fun w' hS => blk_cell (blk_below hm hS) 2)
  have Hm3 : Hid (∀ w', Below w1.heap.size w1 w' → w'.cell? ⟨w.heap.size, 3, none⟩ = some (.slice (some A3) 12 c3)) := Lib.hid (fun w' hS => blk_cell (blk_below hm hS) 3)
  have Hz := Lib.hid hz
  have HB := Lib.hid hB
  clear h h1 hz hm hB
  refine start_ (n := 14) (S := (fun W => Below w1.heap.size w1 W)) (ds := [13]) #[false, false, false, false, false, false, false, false, false, false, false, false, false, false] (by kernel_rfl) rfl rfl (below_drew (Below.refl _ _)) (fun hHeld => ?_)
  refine pure_ (i := 0) (N := some 3) (v := ?_) (a' := ?_) #[true, false, false, false, false, false, false, false, false, false, false, false, false, false] rfl rfl (by kernel_rfl) (fun _ _ _ h => h) (Or.inl ⟨by rfl, ?_⟩) ?_ ?_
  rotate_left
  · intro w'
    go_simp
    with_reducible rfl
  rotate_left
  · simp only [Act.put, List.setIfInBounds_toArray, List.set_cons_zero, List.set_cons_succ, i64_w, i32_w]
    rfl
  refine take_ (i := 1) (N := some 4) (v := ?_) (a' := ?_) #[true, true, false, false, false, false, false, false, false, false, false, false, false, false] rfl rfl (by kernel_rfl) (fun _ _ _ h => h) (Or.inl ⟨by rfl, ?_⟩) hHeld ?_ ?_
  rotate_left
  · rintro w' hS
    have y := Hm0.out w' hS
    go_simp
    with_reducible rfl
  rotate_left
  · simp only [Act.put, List.setIfInBounds_toArray, List.set_cons_zero, List.set_cons_succ, i64_w, i32_w]
    rfl
  refine pure_ (i := 3) (N := some 6) (v := ?_) (a' := ?_) #[true, true, false, true, false, false, false, false, false, false, false, false, false, false] rfl rfl (by kernel_rfl) (fun _ _ _ h => h) (Or.inl ⟨by rfl, ?_⟩) ?_ ?_
  rotate_left
  · intro w'
    go_simp
    with_reducible rfl
  rotate_left
  · simp only [Act.put, List.setIfInBounds_toArray, List.set_cons_zero, List.set_cons_succ, i64_w, i32_w]
    rfl
  refine take_ (i := 4) (N := some 7) (v := ?_) (a' := ?_) #[true, true, false, true, true, false, false, false, false, false, false, false, false, false] rfl rfl (by kernel_rfl) (fun _ _ _ h => h) (Or.inl ⟨by rfl, ?_⟩) hHeld ?_ ?_
  rotate_left
  · rintro w' hS
    have y := Hm1.out w' hS
    go_simp
    with_reducible rfl
  rotate_left
  · simp only [Act.put, List.setIfInBounds_toArray, List.set_cons_zero, List.set_cons_succ, i64_w, i32_w]
    rfl
  refine pure_ (i := 6) (N := some 9) (v := ?_) (a' := ?_) #[true, true, false, true, true, false, true, false, false, false, false, false, false, false] rfl rfl (by kernel_rfl) (fun _ _ _ h => h) (Or.inl ⟨by rfl, ?_⟩) ?_ ?_
  rotate_left
  · intro w'
    go_simp
    with_reducible rfl
  rotate_left
  · simp only [Act.put, List.setIfInBounds_toArray, List.set_cons_zero, List.set_cons_succ, i64_w, i32_w]
    rfl
  refine take_ (i := 7) (N := some 10) (v := ?_) (a' := ?_) #[true, true, false, true, true, false, true, true, false, false, false, false, false, false] rfl rfl (by kernel_rfl) (fun _ _ _ h => h) (Or.inl ⟨by rfl, ?_⟩) hHeld ?_ ?_
  rotate_left
  · rintro w' hS
    have y := Hm2.out w' hS
    go_simp
    with_reducible rfl
  rotate_left
  · simp only [Act.put, List.setIfInBounds_toArray, List.set_cons_zero, List.set_cons_succ, i64_w, i32_w]
    rfl
  refine pure_ (i := 9) (N := some 12) (v := ?_) (a' := ?_) #[true, true, false, true, true, false, true, true, false, true, false, false, false, false] rfl rfl (by kernel_rfl) (fun _ _ _ h => h) (Or.inl ⟨by rfl, ?_⟩) ?_ ?_
  rotate_left
  · intro w'
    go_simp
    with_reducible rfl
  rotate_left
  · simp only [Act.put, List.setIfInBounds_toArray, List.set_cons_zero, List.set_cons_succ, i64_w, i32_w]
    rfl
  refine take_ (i := 10) (N := some 13) (v := ?_) (a' := ?_) #[true, true, false, true, true, false, true, true, false, true, true, false, false, false] rfl rfl (by kernel_rfl) (fun _ _ _ h => h) (Or.inl ⟨by rfl, ?_⟩) hHeld ?_ ?_
  rotate_left
  · rintro w' hS
    have y := Hm3.out w' hS
    go_simp
    with_reducible rfl
  rotate_left
  · simp only [Act.put, List.setIfInBounds_toArray, List.set_cons_zero, List.set_cons_succ, i64_w, i32_w]
    rfl
  refine one_ (i := 2) (N := some 5) #[true, true, true, true, true, false, true, true, false, true, true, false, false, false] rfl rfl (by kernel_rfl) (by decide) (fun K hK => ?_)
  refine goes_ Try.func50 (by kernel_rfl) rfl #[.slice (some A0) 16 c0] (by rfl) rfl rfl (by (try simp only [List.map_toArray, List.map_cons, List.map_nil]); first | done | rfl) ?_
  with_reducible refine (clone_rowN (some A0) c0 16 rows0 _ rows0_len (by exact Kd.C_below HF0.out hHeld) (by decide) (by decide)).mono ?_
  rintro e w3 ⟨u0, rfl, hR0, hB0⟩
  obtain ⟨g0, k0, rfl, hk0, hg0, hb0⟩ := R_B (show Plain RK rowC from plain_flat 2 rowC _) (fun _ => rfl) (by decide) hR0 (by rw [rows0_len]; decide)
  rw [rows0_len]
  rw [rows0_len] at hk0
  have hg0' := Nat.le_trans (below_size hHeld) hg0
  have KG0 := Lib.hid (And.intro hk0 hg0')
  have hb0' : RowB w3 g0 122 rowC rows0 := hb0
  clear hR0 hk0 hg0 hg0'
  have RB0 := Lib.hid hb0'
  clear hb0 hb0'
  refine ⟨_, rfl, ?_⟩
  refine hK.out _ _ (below_step hHeld hB0) (fun hHeld => ?_)
  clear hK K
  refine norm_ (a' := ?_) ?_ ?_
  rotate_left
  · show Act.put _ (some 5) _ = _
    simp only [Act.put, List.setIfInBounds_toArray, List.set_cons_zero, List.set_cons_succ, i64_w, i32_w]
    rfl
  refine one_ (i := 5) (N := some 8) #[true, true, true, true, true, true, true, true, false, true, true, false, false, false] rfl rfl (by kernel_rfl) (by decide) (fun K hK => ?_)
  refine goes_ Try.func51 (by kernel_rfl) rfl #[.slice (some A1) 6 c1] (by rfl) rfl rfl (by (try simp only [List.map_toArray, List.map_cons, List.map_nil]); first | done | rfl) ?_
  with_reducible refine (clone_intN (some A1) c1 6 M.own _ HM.out.olen (by exact Kd.C_below HF1.out hHeld) (by decide) (by decide)).mono ?_
  rintro e w4 ⟨u1, rfl, hR1, hB1⟩
  obtain ⟨g1, k1, rfl, hk1, hg1, hb1⟩ := R_B (plain_int .i64) (fun _ => rfl) (by decide) hR1 (by rw [HM.out.olen]; decide)
  rw [HM.out.olen]
  rw [HM.out.olen] at hk1
  have hg1' := Nat.le_trans (below_size hHeld) hg1
  have KG1 := Lib.hid (And.intro hk1 hg1')
  have hb1' : RowB w4 g1 3 i64C M.own := hb1
  clear hR1 hk1 hg1 hg1'
  have b0 := RB0.out.below hB1
  clear RB0
  have RB0 := Lib.hid b0
  clear b0
  have RB1 := Lib.hid hb1'
  clear hb1 hb1'
  refine ⟨_, rfl, ?_⟩
  refine hK.out _ _ (below_step hHeld hB1) (fun hHeld => ?_)
  clear hK K
  refine norm_ (a' := ?_) ?_ ?_
  rotate_left
  · show Act.put _ (some 8) _ = _
    simp only [Act.put, List.setIfInBounds_toArray, List.set_cons_zero, List.set_cons_succ, i64_w, i32_w]
    rfl
  refine one_ (i := 8) (N := some 11) #[true, true, true, true, true, true, true, true, true, true, true, false, false, false] rfl rfl (by kernel_rfl) (by decide) (fun K hK => ?_)
  refine goes_ Try.func26 (by kernel_rfl) rfl #[.slice (some A2) 64 c2] (by rfl) rfl rfl (by (try simp only [List.map_toArray, List.map_cons, List.map_nil]); first | done | rfl) ?_
  with_reducible refine (clone_byteN (some A2) c2 64 M.used _ HM.out.used.len (by exact Kd.C_below HF2.out hHeld) (by decide) (by decide)).mono ?_
  rintro e w5 ⟨u2, rfl, hR2, hB2⟩
  obtain ⟨g2, k2, rfl, hk2, hg2, hb2⟩ := R_B (plain_int .u8) (fun _ => rfl) (by decide) hR2 (by rw [HM.out.used.len]; decide)
  rw [HM.out.used.len]
  rw [HM.out.used.len] at hk2
  have hg2' := Nat.le_trans (below_size hHeld) hg2
  have KG2 := Lib.hid (And.intro hk2 hg2')
  have hb2' : RowB w5 g2 5 u8C M.used := hb2
  clear hR2 hk2 hg2 hg2'
  have b0 := RB0.out.below hB2
  have b1 := RB1.out.below hB2
  clear RB0
  clear RB1
  have RB0 := Lib.hid b0
  have RB1 := Lib.hid b1
  clear b0 b1
  have RB2 := Lib.hid hb2'
  clear hb2 hb2'
  refine ⟨_, rfl, ?_⟩
  refine hK.out _ _ (below_step hHeld hB2) (fun hHeld => ?_)
  clear hK K
  refine norm_ (a' := ?_) ?_ ?_
  rotate_left
  · show Act.put _ (some 11) _ = _
    simp only [Act.put, List.setIfInBounds_toArray, List.set_cons_zero, List.set_cons_succ, i64_w, i32_w]
    rfl
  refine one_ (i := 11) (N := some 14) #[true, true, true, true, true, true, true, true, true, true, true, true, false, false] rfl rfl (by kernel_rfl) (by decide) (fun K hK => ?_)
  refine goes_ Try.func52 (by kernel_rfl) rfl #[.slice (some A3) 12 c3] (by rfl) rfl rfl (by (try simp only [List.map_toArray, List.map_cons, List.map_nil]); first | done | rfl) ?_
  with_reducible refine (clone_inodeN (some A3) c3 12 M.ino _ HM.out.ilen (by exact Kd.C_below HF3.out hHeld) (by decide) (by decide)).mono ?_
  rintro e w6 ⟨u3, rfl, hR3, hB3⟩
  obtain ⟨g3, k3, rfl, hk3, hg3, hb3⟩ := R_B (show Plain IK inoC from plain_flat 14 inoC _) (fun _ => rfl) (by decide) hR3 (by rw [HM.out.ilen]; decide)
  rw [HM.out.ilen]
  rw [HM.out.ilen] at hk3
  have hg3' := Nat.le_trans (below_size hHeld) hg3
  have KG3 := Lib.hid (And.intro hk3 hg3')
  have hb3' : RowB w6 g3 83 inoC M.ino := hb3
  clear hR3 hk3 hg3 hg3'
  have b0 := RB0.out.below hB3
  have b1 := RB1.out.below hB3
  have b2 := RB2.out.below hB3
  clear RB0
  clear RB1
  clear RB2
  have RB0 := Lib.hid b0
  have RB1 := Lib.hid b1
  have RB2 := Lib.hid b2
  clear b0 b1 b2
  have RB3 := Lib.hid hb3'
  clear hb3 hb3'
  refine ⟨_, rfl, ?_⟩
  refine hK.out _ _ (below_step hHeld hB3) (fun hHeld => ?_)
  clear hK K
  refine norm_ (a' := ?_) ?_ ?_
  rotate_left
  · show Act.put _ (some 14) _ = _
    simp only [Act.put, List.setIfInBounds_toArray, List.set_cons_zero, List.set_cons_succ, i64_w, i32_w]
    rfl
  refine pure_ (i := 12) (N := some 15) (v := .agg #[.slice (some ⟨g0, 0, none⟩) 16 k0, .slice (some ⟨g1, 0, none⟩) 6 k1, .slice (some ⟨g2, 0, none⟩) 64 k2, .slice (some ⟨g3, 0, none⟩) 12 k3]) (a' := ?_) #[true, true, true, true, true, true, true, true, true, true, true, true, true, false] rfl rfl (by kernel_rfl) (fun _ _ _ h => h) (yields_build (by rfl) 36 #[(0, .tmp 5), (1, .tmp 8), (2, .tmp 11), (3, .tmp 14)] rfl _ #[.slice (some ⟨g0, 0, none⟩) 16 k0, .slice (some ⟨g1, 0, none⟩) 6 k1, .slice (some ⟨g2, 0, none⟩) 64 k2, .slice (some ⟨g3, 0, none⟩) 12 k3] (by simp only [List.map_toArray, List.map_cons, List.map_nil]; rfl) (by kernel_rfl)) ?_ ?_
  rotate_left
  · simp only [Act.put, List.setIfInBounds_toArray, List.set_cons_zero, List.set_cons_succ, i64_w, i32_w]
    rfl
  refine last_ (i := 13) (N := none) #[true, true, true, true, true, true, true, true, true, true, true, true, true, true] rfl rfl (by kernel_rfl) (by decide) (fun K hK => ?_)
  have hz := blk_below Hz.out hHeld
  refine skip_ (by rfl) rfl (run_exec_store rfl rfl rfl (store_row (W := w6) (ty := 36) (cells := #[.slice (some ⟨g0, 0, none⟩) 16 k0, .slice (some ⟨g1, 0, none⟩) 6 k1, .slice (some ⟨g2, 0, none⟩) 64 k2, .slice (some ⟨g3, 0, none⟩) 12 k3]) hz (by rw [sz_meta]; rfl) rfl (by simp [Value.oneCell']))) ?_
  refine hK.out _ _ ?_
  clear hK K
  refine done_ (by kernel_rfl) ?_
  go_wp2_with fail
  have hlt : w.heap.size + 1 < w1.heap.size := blk_lt Hz.out
  refine bodyPost_ret (results_cell rfl _ _ (w.heap.size + 1) 36 #[.slice (some ⟨g0, 0, none⟩) 16 k0, .slice (some ⟨g1, 0, none⟩) 6 k1, .slice (some ⟨g2, 0, none⟩) 64 k2, .slice (some ⟨g3, 0, none⟩) 12 k3] _ rfl (setRow_heap w6 _ _ _ _ _ hz) Try.underlying36 rfl sz_meta) rfl ?_
  have q0 := KG0.out
  have q1 := KG1.out
  have q2 := KG2.out
  have q3 := KG3.out
  have hs1 := HB.out.size
  exact ⟨g0, k0, g1, k1, g2, k2, g3, k3, rfl, ⟨⟨q0.1, q1.1, q2.1, q3.1⟩, ⟨by omega, by omega, by omega, by omega⟩,
    RB0.out.step (setRow_other w6 _ _ _ (by omega)), RB1.out.step (setRow_other w6 _ _ _ (by omega)), RB2.out.step (setRow_other w6 _ _ _ (by omega)), RB3.out.step (setRow_other w6 _ _ _ (by omega))⟩, below_setRow (below_step HB.out hHeld) (by omega) _⟩
end Go.Proofs.Ytpbijdalfeaheaa.Tf

/- meta.inodes. -/
namespace Go.Proofs.Ytpbijdalfeaheaa.Tf
open Go.RowKit Go.Proofs.YtpbijdalfeaheaaW.PrintWords Go.Proofs.YtpbijdalfeaheaaW.PrintLast Go.Proofs.YtpbijdalfeaheaaW.PrintMore
set_option linter.unusedVariables false
set_option linter.unusedSimpArgs false
/-- A row of rows of bytes is read at k. -/
theorem sl_at {w : World} {ad : Addr} {n : Nat} {rows : List Raw} {ok : Nat → Prop} {vs : List (List Int)} (hC : SL.C w (some ad) n rows) (hS : Says w ok rows (tagB vs)) (k : Nat) (hk : k < vs.length) :
    ∃ a c, w.cell? (ad.add k) = some (.slice (some a) 64 c) ∧ 64 ≤ c ∧ Kd.F (Kd.int .u8) w ok (some a) 64 vs[k] ∧ vs[k].length = 64 := by
  have hl : rows.length = vs.length := by rw [hS.1]; simp [tagB]
  have hkr : k < rows.length := by omega
  obtain ⟨ad', e, hc⟩ := hC.2.2 (by have := hC.1; omega)
  injection e with e
  subst e
  obtain ⟨c, _, hr, hcc⟩ := hc k _ (List.getElem?_eq_getElem hkr)
  have hr2 : c = [slV rows[k]] := hr
  subst hr2
  have h0 := hcc 0 _ rfl
  have hs1 : SL.sz = 1 := rfl
  rw [hs1, Nat.mul_one, Nat.add_zero] at h0
  have hkt : k < (tagB vs).length := by simpa [tagB] using hk
  obtain ⟨_, h2, h3, h4⟩ := hS.2 k _ _ (List.getElem?_eq_getElem hkr) (List.getElem?_eq_getElem hkt)
  have e2 : (tagB vs)[k] = (0, vs[k]) := by simp [tagB]
  rw [e2] at h2 h4
  obtain ⟨a, ea, _⟩ := (Kd.F_now h4).2.2 (by decide)
  refine ⟨a, rows[k].2.2, ?_, h3, by rw [← ea]; exact h4, h2⟩
  rw [h0]
  unfold slV
  rw [ea]
theorem inosB_len : ∀ (n : Nat) (l : List (Int × Int)), 2 * n ≤ l.length → (inosB n l).length = n := by
  intro n
  induction n with
  | zero => intro l _; rfl
  | succ n ih =>
    intro l h
    match l, h with
    | x :: y :: l, h => rw [inosB, List.length_cons, ih l (by simp at h; omega)]
theorem inosB_at : ∀ (n : Nat) (l : List (Int × Int)) (k : Nat) (h : 2 * n ≤ l.length) (hk : k < n) (hk' : k < (inosB n l).length), (inosB n l)[k] = inoB (l[2 * k]'(by omega)) ++ inoB (l[2 * k + 1]'(by omega)) := by
  intro n
  induction n with
  | zero => intro l k _ hk; omega
  | succ n ih =>
    intro l k h hk hk'
    match l, h with
    | x :: y :: l, h =>
      cases k with
      | zero => rfl
      | succ k =>
        have hh := ih l k (by simp at h; omega) (by omega) (by rw [inosB_len n l (by simp at h; omega)]; omega)
        have e1 : (inosB (n + 1) (x :: y :: l))[k + 1] = (inosB n l)[k]'(by rw [inosB_len n l (by simp at h; omega)]; omega) := rfl
        rw [e1, hh]
        rfl
/-- A part of a row that is read. -/
theorem C_part {w : World} {a : Addr} {k : IntKind} {xs : List Int} {n : Nat} (h : Kd.C (Kd.int k) w (some a) n xs) (o : Nat) (ys zs : List Int) (e : xs = ys ++ (zs ++ xs.drop (o + zs.length))) (hy : ys.length = o) (hz : zs.length ≤ 100000) : Kd.C (Kd.int k) w (some (a.add o)) zs.length zs := by
  refine C_cells (fun i hi => ?_) hz
  have hil : o + i < xs.length := by rw [e]; simp; omega
  obtain ⟨ad, e1, hc⟩ := at_int h (o + i) hil
  injection e1 with e1
  subst e1
  have e2 : xs[o + i] = zs[i] := by
    have h1 : xs[o + i]? = zs[i]? := by
      conv => lhs; rw [e]
      rw [List.getElem?_append_right (by omega), hy, Nat.add_sub_cancel_left, List.getElem?_append_left hi]
    rw [List.getElem?_eq_getElem hil, List.getElem?_eq_getElem hi] at h1
    injection h1
  rw [← Addr.add_add] at hc
  rw [hc, e2]
theorem load_blk {W : World} {g : Nat} {t ty : TypeId} {cs : List Value} {d : TypeDesc} (h : W.heap[g]? = some (.cells cs.toArray t (0, 0))) (hu : Try.prog.underlying ty = some d) (hd : d.isRow = true) (hi : (Try.prog.info? ty).map (·.size) = some cs.length) :
    (Instr.loadAt ty (.pointer (some ⟨g, 0, none⟩))).run Try.prog W = .ok (.agg cs.toArray) W :=
  run_loadAt_mid (P := Try.prog) W g 0 ty cs _ (fun j v hj => by rw [Nat.zero_add, blk_cell h]; simpa using hj) hu hd hi
theorem ino_one (x : Int × Int) (W : World) : (Instr.buildSlice 34 1 #[(0, .agg (inoC x).toArray)]).run Try.prog W = .ok (.slice (some ⟨W.heap.size, 0, none⟩) 1 1) (W.alloc (.cells (inoC x).toArray 83)) :=
  build_one 34 83 _ 14 104 Try.underlying34 info_inode rfl (by decide) (by decide) _ rfl W
section
variable {ops : Array Oper} {rest : List Oper} {o : Oper} {a : Act} {w : World} {Q : Exit → Act → World → Prop}
theorem gate_buildSlice (ty : TypeId) (x : Operand) (ho : o.op = .buildSlice ty 1 #[(0, x)]) (h : wpList Try.prog ops Q (o :: rest) a w) : wpList Try.prog ops Q (o :: rest) a w := h
/-- A slice of one element, whose run is told. -/
theorem wpList_buildSlice_eq {w1 : World} (hgd : o.guard = none) (ty : TypeId) (x : Operand) (ho : o.op = .buildSlice ty 1 #[(0, x)]) (u v : Value) (hx : a.eval x = u) (hrun : (Instr.buildSlice ty 1 #[(0, u)]).run Try.prog w = .ok v w1) (h : wpList Try.prog ops Q rest (a.put o.dst v) w1) : wpList Try.prog ops Q (o :: rest) a w :=
  wpList_plain hgd fun K hK => by
    unfold Oper.wp execOp
    simp only [ho, Sem.run_bind, Sem.run_pure, Result.andThen_ok, List.map_toArray, List.map_cons, List.map_nil, hx, hrun]
    exact hK _ _ h
end
set_option maxHeartbeats 4000000 in
set_option maxRecDepth 100000 in
theorem inodes_any (l : List (Int × Int)) (hl : l.length = 12) (hok : ∀ x ∈ l, InoOk x) (ok : Nat → Prop) (ad : Addr) (c0 : Nat) (rows : List Raw) (w : World) (hC : SL.C w (some ad) 6 rows) (hS : Says w ok rows (tagB (inosB 6 l))) :
    Calls Try.prog 35 #[.slice (some ad) 6 c0] w fun e w' => ∃ v, e = .returned (.tuple #[v, .bool true]) ∧ Kd.R IK 83 w' w.heap.size (fun _ => True) v l ∧ Below w.heap.size w w' := by
  have HC := Lib.hid hC
  have HS := Lib.hid hS
  have HL := Lib.hid hl
  have HO := Lib.hid hok
  clear hC hS hl hok
  go_enter Try.func35, Try.ntmps35
  go_wp2_with fail
  go_loopg [4, 6, 7, 8, 9, 12] 6 (fun q v4 _ _ _ _ i wr => ∃ k, k + q = 6 ∧ i = .int .i64 (k : Int) ∧ Hid (Kd.R IK 83 wr w.heap.size (fun _ => True) v4 (l.take (2 * k))) ∧ Hid (Below w.heap.size w wr))
  case atStart => exact ⟨0, rfl, rfl, Lib.hid (Kd.R_nil _ _ _ _ _), Lib.hid (Below.refl _ _)⟩
  case round =>
    obtain ⟨k, hq, rfl, hR, hB⟩ := hrel
    cases gk with
    | zero =>
      obtain rfl : k = 6 := by omega
      go_wp2_with fail
      go_ret2
      exact ⟨_, rfl, by have := hR.out; rwa [List.take_of_length_le (by rw [HL.out]; exact Nat.le_refl _)] at this, hB.out⟩
    | succ q =>
      have d1 : decide ((k : Int) < 6) = true := decide_eq_true (by omega)
      have q0 : 0 ≤ (k : Int) := by omega
      have q1 : (k : Int) < 6 := by omega
      have hlen := inosB_len 6 l (by rw [HL.out]; exact Nat.le_refl _)
      obtain ⟨a, c, hcell, hcc, hF, h64⟩ := sl_at HC.out HS.out k (by rw [hlen]; omega)
      replace hcell : wr.cell? (ad.add k) = some (.slice (some a) 64 c) := by rw [hB.out.cell (World.block_lt_of_cell? w _ hcell)]; exact hcell
      have hat := inosB_at 6 l k (by rw [HL.out]; exact Nat.le_refl _) (by omega) (by rw [hlen]; omega)
      have hk0 : 2 * k < l.length := by rw [HL.out]; omega
      have hk1 : 2 * k + 1 < l.length := by rw [HL.out]; omega
      obtain ⟨x, hx⟩ : ∃ x, l[2 * k] = x := ⟨_, rfl⟩
      obtain ⟨y, hy⟩ : ∃ y, l[2 * k + 1] = y := ⟨_, rfl⟩
      have hox : InoOk x := HO.out x (by rw [← hx]; exact List.getElem_mem hk0)
      have hoy : InoOk y := HO.out y (by rw [← hy]; exact List.getElem_mem hk1)
      have htk : l.take (2 * (k + 1)) = l.take (2 * k) ++ [x] ++ [y] := by
        rw [show 2 * (k + 1) = 2 * k + 1 + 1 by omega, List.take_succ_eq_append_getElem hk1, List.take_succ_eq_append_getElem hk0, hx, hy]
      rw [hx, hy] at hat
      have hC1 := Kd.F_now hF
      rw [hat] at hC1
      have lx : (inoB x).length = 32 := inoB_len x
      have ly : (inoB y).length = 32 := inoB_len y
      have hCx := C_part hC1 0 [] (inoB x) (by rw [Nat.zero_add, List.drop_left]; rfl) rfl (by omega)
      have hCy := C_part hC1 32 (inoB x) (inoB y) (by rw [List.drop_of_length_le (by rw [List.length_append]; omega), List.append_nil]) lx (by omega)
      rw [lx] at hCx
      rw [ly] at hCy
      have HX := Lib.hid (And.intro hox hCx)
      have HY := Lib.hid (And.intro hoy hCy)
      have Htk := Lib.hid htk
      have hll : (l.take (2 * k)).length ≤ 12 := by rw [List.length_take]; omega
      obtain ⟨xs, hxs⟩ : ∃ xs, l.take (2 * k) = xs := ⟨_, rfl⟩
      rw [hxs] at Htk hR hll
      have Hll := Lib.hid hll
      have n1 : ¬ c = 32 := by omega
      have n2 : (64 : Int) ≤ (c : Int) := by omega
      have n3 : (32 : Int) ≤ (c : Int) := by omega
      clear hF hat hk0 hk1 hx hy hox hoy htk hC1 lx ly hCx hCy hxs hll h64 hlen
      go_wp2_with fail
      obtain ⟨w0, hw0⟩ : ∃ w0 : World, w0 = wr := ⟨_, rfl⟩
      subst hw0
      go_loopg [4, 7, 8, 9] 2 (fun q v4 v7 _ _ wr => ∃ j, j + q = 2 ∧ v7 = .int .i64 (32 * (j : Int)) ∧ Hid (Kd.R IK 83 wr w.heap.size (fun _ => True) v4 (xs ++ [x, y].take j)) ∧ Hid (Below w.heap.size w wr))
      case atStart => exact ⟨0, rfl, rfl, Lib.hid (by simpa using hR.out), hB⟩
      case round =>
        clear hR hB
        obtain ⟨j, hj, rfl, hR3, hB3⟩ := hrel
        cases gk with
        | zero =>
          obtain rfl : j = 2 := by omega
          have d2 : decide ((32 * ((2 : Nat) : Int)) < 64) = false := rfl
          go_wp2_with fail
          go_roundg q
          case measure => omega
          case rel => exact ⟨k + 1, by omega, by go_num, Lib.hid (by rw [Htk.out]; simpa using hR3.out), hB3⟩
        | succ q' =>
        obtain rfl | rfl : j = 0 ∨ j = 1 := by omega
        · rw [show (32 * ((0 : Nat) : Int)) = 0 from rfl]
          go_wp2_with fail
          refine (inotake_any x HX.out.1 (a.add 0) c wr (Kd.C_below HX.out.2 hB3.out) (by omega)).mono ?_
          rintro e w4 ⟨rfl, hB4⟩
          have hR4 := Kd.R_below hR3.out hB4
          have hB4' := below_step hB3.out hB4
          obtain ⟨w6, hw6⟩ : ∃ w6, (w4.alloc (.cells inoZ 83)).setRow w4.heap.size (inoC x).toArray = w6 := ⟨_, rfl⟩
          have hst : (Instr.storeAt 83 (.pointer (some ⟨w4.heap.size, 0, none⟩)) (.agg (inoC x).toArray)).run Try.prog (w4.alloc (.cells inoZ 83)) = .ok () w6 := by
            rw [← hw6]
            exact store_row (blk_new _ _) (by rw [sz_ino]; rfl) rfl (by simp [inoC, Value.oneCell'])
          have hz6 : w6.heap[w4.heap.size]? = some (.cells (inoC x).toArray 83 (0, 0)) := by rw [← hw6]; exact setRow_heap _ _ _ _ _ _ (blk_new _ _)
          have hB6 : Below w4.heap.size w4 w6 := by rw [← hw6]; exact below_setRow (below_alloc (Below.refl _ _) _) (Nat.le_refl _) _
          clear hw6
          have hload := load_blk (ty := 83) (cs := inoC x) hz6 Try.underlying83 rfl sz_ino
          obtain ⟨v7, w7, hap, hR7, hg7⟩ := (show Plain IK inoC from plain_flat 14 inoC _).append (w6.alloc (.cells (inoC x).toArray 83)) w.heap.size 34 34 83 (.agg inoZ) 104 Try.underlying34 info_inode rfl (by decide) u4 (xs ++ [x, y].take 0) [x] (Kd.R_below hR4 (below_step hB6 (below_alloc (Below.refl _ _) _))) (some ⟨w6.heap.size, 0, none⟩) 1 1 (by decide) (C_flat1 (enc := inoC) (blk_new w6 _) rfl) (by have := Hll.out; simp; omega) (by have := Hll.out; unfold maxLen; simp; omega) (by have h2 := hB4'.size; have h3 := hB6.size; rw [World.size_alloc]; omega)
          have hB7 : Below w.heap.size w w7 := pw_below_grown (below_step (below_step hB4' hB6) (below_alloc (Below.refl _ _) (.cells (inoC x).toArray 83))) _ (by have h2 := hB4'.size; have h3 := hB6.size; rw [World.size_alloc]; omega) hg7 (fun k hk => R_base' hR4 k hk)
          have Hst := Lib.hid hst
          have Hload := Lib.hid hload
          have Hap := Lib.hid hap
          have HR7 := Lib.hid hR7
          have HB7 := Lib.hid hB7
          clear hst hz6 hB6 hload hap hR7 hg7 hB7 hR4 hB4 hB4' hR3 hB3
          go_wp2_with (first | ((with_reducible refine gate_store 83 (.tmp 8) (.tmp 29) rfl ?_); refine wpList_store_eq rfl _ _ _ rfl _ _ rfl rfl Hst.out ?_) | ((with_reducible refine gate_load 83 (.tmp 8) rfl ?_); refine wpList_load_eq rfl _ _ rfl _ _ rfl Hload.out ?_) | ((with_reducible refine gate_buildSlice 34 (.tmp 34) rfl ?_); refine wpList_buildSlice_eq rfl _ _ rfl _ _ rfl (ino_one x _) ?_) | ((with_reducible refine gate_builtin (b := .append) (xs := #[.tmp 33, .tmp 35]) rfl ?_); at_builtin; refine wpList_append_eq rfl (.tmp 33) (.tmp 35) 34 rfl _ _ v7 rfl rfl Hap.out ?_))
          go_roundg q'
          case measure => omega
          case rel => exact ⟨0 + 1, by omega, by go_num, Lib.hid (by have := HR7.out; simpa using this), HB7⟩
        · rw [show (32 * ((1 : Nat) : Int)) = 32 from rfl]
          go_wp2_with fail
          refine (inotake_any y HY.out.1 (a.add 32) (c - 32) wr (Kd.C_below HY.out.2 hB3.out) (by omega)).mono ?_
          rintro e w4 ⟨rfl, hB4⟩
          have hR4 := Kd.R_below hR3.out hB4
          have hB4' := below_step hB3.out hB4
          obtain ⟨w6, hw6⟩ : ∃ w6, (w4.alloc (.cells inoZ 83)).setRow w4.heap.size (inoC y).toArray = w6 := ⟨_, rfl⟩
          have hst : (Instr.storeAt 83 (.pointer (some ⟨w4.heap.size, 0, none⟩)) (.agg (inoC y).toArray)).run Try.prog (w4.alloc (.cells inoZ 83)) = .ok () w6 := by
            rw [← hw6]
            exact store_row (blk_new _ _) (by rw [sz_ino]; rfl) rfl (by simp [inoC, Value.oneCell'])
          have hz6 : w6.heap[w4.heap.size]? = some (.cells (inoC y).toArray 83 (0, 0)) := by rw [← hw6]; exact setRow_heap _ _ _ _ _ _ (blk_new _ _)
          have hB6 : Below w4.heap.size w4 w6 := by rw [← hw6]; exact below_setRow (below_alloc (Below.refl _ _) _) (Nat.le_refl _) _
          clear hw6
          have hload := load_blk (ty := 83) (cs := inoC y) hz6 Try.underlying83 rfl sz_ino
          obtain ⟨v7, w7, hap, hR7, hg7⟩ := (show Plain IK inoC from plain_flat 14 inoC _).append (w6.alloc (.cells (inoC y).toArray 83)) w.heap.size 34 34 83 (.agg inoZ) 104 Try.underlying34 info_inode rfl (by decide) u4 (xs ++ [x, y].take 1) [y] (Kd.R_below hR4 (below_step hB6 (below_alloc (Below.refl _ _) _))) (some ⟨w6.heap.size, 0, none⟩) 1 1 (by decide) (C_flat1 (enc := inoC) (blk_new w6 _) rfl) (by have := Hll.out; simp; omega) (by have := Hll.out; unfold maxLen; simp; omega) (by have h2 := hB4'.size; have h3 := hB6.size; rw [World.size_alloc]; omega)
          have hB7 : Below w.heap.size w w7 := pw_below_grown (below_step (below_step hB4' hB6) (below_alloc (Below.refl _ _) (.cells (inoC y).toArray 83))) _ (by have h2 := hB4'.size; have h3 := hB6.size; rw [World.size_alloc]; omega) hg7 (fun k hk => R_base' hR4 k hk)
          have Hst := Lib.hid hst
          have Hload := Lib.hid hload
          have Hap := Lib.hid hap
          have HR7 := Lib.hid hR7
          have HB7 := Lib.hid hB7
          clear hst hz6 hB6 hload hap hR7 hg7 hB7 hR4 hB4 hB4' hR3 hB3
          go_wp2_with (first | ((with_reducible refine gate_store 83 (.tmp 8) (.tmp 29) rfl ?_); refine wpList_store_eq rfl _ _ _ rfl _ _ rfl rfl Hst.out ?_) | ((with_reducible refine gate_load 83 (.tmp 8) rfl ?_); refine wpList_load_eq rfl _ _ rfl _ _ rfl Hload.out ?_) | ((with_reducible refine gate_buildSlice 34 (.tmp 34) rfl ?_); refine wpList_buildSlice_eq rfl _ _ rfl _ _ rfl (ino_one y _) ?_) | ((with_reducible refine gate_builtin (b := .append) (xs := #[.tmp 33, .tmp 35]) rfl ?_); at_builtin; refine wpList_append_eq rfl (.tmp 33) (.tmp 35) 34 rfl _ _ v7 rfl rfl Hap.out ?_))
          go_roundg q'
          case measure => omega
          case rel => exact ⟨1 + 1, by omega, by go_num, Lib.hid (by have := HR7.out; simpa using this), HB7⟩
end Go.Proofs.Ytpbijdalfeaheaa.Tf
