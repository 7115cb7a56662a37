/- Walks and plain laws on which the claim stands, several texts joined. -/
import Derived.Test.YtpbijdalfeaheaaM10
import Derived.Test.YtpbijdalfeaheaaM7

/- moattop.change: what comes of it is right, whatever is changed. -/
namespace Go.Proofs.Ytpbijdalfeaheaa.Tf
open Go.RowKit Go.Proofs.YtpbijdalfeaheaaW.PrintWords Go.Proofs.YtpbijdalfeaheaaW.PrintLast Go.Proofs.YtpbijdalfeaheaaW.PrintMore
set_option linter.unusedVariables false
set_option linter.unusedSimpArgs false
/-- A change: an owner, a block, an inode, a size. -/
abbrev Kn := Int × Int × Int × Int
def knC (x : Kn) : List Value := [.int .u8 x.1, .int .u16 x.2.1, .int .u8 x.2.2.1, .int .u16 x.2.2.2]
def KNK : Kd Kn := flat 4 knC (fun x u hu => by
  simp only [knC, List.mem_cons, List.not_mem_nil, or_false] at hu
  rcases hu with h | h | h | h <;> rw [h] <;> rfl)
def KnOk (x : Kn) : Prop := (0 ≤ x.1 ∧ x.1 < 256) ∧ (0 ≤ x.2.1 ∧ x.2.1 < 65536) ∧ (0 ≤ x.2.2.1 ∧ x.2.2.1 < 256) ∧ (0 ≤ x.2.2.2 ∧ x.2.2.2 < 65536)
theorem sz_known : (Try.prog.info? 86).map (·.size) = some 4 := by kernel_rfl
theorem u8_range (z : Int) : 0 ≤ IntKind.u8.wrap z ∧ IntKind.u8.wrap z < 256 := by
  have h : IntKind.u8.wrap z = z % 256 := by
    have e1 : IntKind.u8.signed = false := rfl
    have e2 : IntKind.u8.bits = 8 := rfl
    simp [IntKind.wrap, e1, e2]
  omega
theorem xor_byte (a b : Int) : 0 ≤ bits .xor .u8 a b ∧ bits .xor .u8 a b < 256 := u8_range _
/-- An owner, a byte of blocks, an inode more. -/
def setOwn (M : Mt) (k : Nat) (x : Int) : Mt := { M with own := M.own.set k x }
def setUsed (M : Mt) (k : Nat) (x : Int) : Mt := { M with used := M.used.set k x }
def setIno (M : Mt) (k : Nat) (x : Int × Int) : Mt := { M with ino := M.ino.set k x }
theorem own_ok {M : Mt} (h : MtOk M) (k : Nat) (x : Int) (hx : 0 ≤ x ∧ x ≤ 16) : MtOk (setOwn M k x) := by
  refine ⟨by show (M.own.set k x).length = 6; rw [List.length_set]; exact h.olen, fun o ho => ?_, h.used, h.ilen, h.ino⟩
  rcases List.mem_or_eq_of_mem_set ho with ho | rfl
  · exact h.own o ho
  · exact hx
theorem used_ok {M : Mt} (h : MtOk M) (k : Nat) (hk : k < 6) (x : Int) (hx : 0 ≤ x ∧ x < 256) : MtOk (setUsed M k x) := by
  refine ⟨h.olen, h.own, ⟨by show (M.used.set k x).length = 64; rw [List.length_set]; exact h.used.len, fun o ho => ?_, fun j h6 h64 => ?_⟩, h.ilen, h.ino⟩
  · rcases List.mem_or_eq_of_mem_set ho with ho | rfl
    · exact h.used.byte o ho
    · exact hx
  · show (M.used.set k x).getD j 0 = 0
    rw [List.getD_eq_getElem?_getD, List.getElem?_set_ne (by omega), ← List.getD_eq_getElem?_getD]
    exact h.used.zero j h6 h64
theorem ino_ok {M : Mt} (h : MtOk M) (k : Nat) (x : Int × Int) (hx : InoOk x) : MtOk (setIno M k x) := by
  refine ⟨h.olen, h.own, h.used, by show (M.ino.set k x).length = 12; rw [List.length_set]; exact h.ilen, fun o ho => ?_⟩
  rcases List.mem_or_eq_of_mem_set ho with ho | rfl
  · exact h.ino o ho
  · exact hx
/-- What lies in memory while changes are made. -/
structure ChS (w W : World) (bc g0 k0 g1 k1 g2 k2 g3 k3 : Nat) (M : Mt) : Prop where
  geo : W.heap[w.heap.size]? = some (.cells #[.int .i64 30, .int .i64 12, .int .i64 6, .int .i64 8] 25 (0, 0))
  res : W.heap[w.heap.size + 1 + 1]? = some (.cells #[.slice none 0 0, .slice none 0 0, .slice none 0 0, .slice none 0 0] 36 (0, 0))
  met : W.heap[bc]? = some (.cells #[.slice (some ⟨g0, 0, none⟩) 16 k0, .slice (some ⟨g1, 0, none⟩) 6 k1, .slice (some ⟨g2, 0, none⟩) 64 k2, .slice (some ⟨g3, 0, none⟩) 12 k3] 36 (0, 0))
  lo : w.heap.size + 1 + 1 < bc
  all : MetaB W w.heap.size g0 k0 g1 k1 g2 k2 g3 k3 M
  below : Below w.heap.size w W
section
variable {w W W1 : World} {bc g0 k0 g1 k1 g2 k2 g3 k3 : Nat} {M : Mt}
theorem ChS.step (h : ChS w W bc g0 k0 g1 k1 g2 k2 g3 k3 M) (hb : Below W.heap.size W W1) : ChS w W1 bc g0 k0 g1 k1 g2 k2 g3 k3 M := ⟨blk_below h.geo hb, blk_below h.res hb, blk_below h.met hb, h.lo, h.all.below hb, below_step h.below hb⟩
theorem ChS.own (h : ChS w W bc g0 k0 g1 k1 g2 k2 g3 k3 M) (k : Nat) (hk : k < M.own.length) (x : Int) : ChS w (W.setCell ⟨g1, k, none⟩ (.int .i64 x)) bc g0 k0 g1 k1 g2 k2 g3 k3 (setOwn M k x) := by
  have e : ∀ j, j ≠ g1 → (W.setCell ⟨g1, k, none⟩ (.int .i64 x)).heap[j]? = W.heap[j]? := fun j hj => Below.heap_setCell W ⟨g1, k, none⟩ (.int .i64 x) j hj
  have a := h.all
  exact ⟨(e _ (a.own.ne_blk h.geo (by decide)).symm).trans h.geo, (e _ (a.own.ne_blk h.res (by decide)).symm).trans h.res, (e _ (a.own.ne_blk h.met (by decide)).symm).trans h.met, h.lo,
    ⟨a.cap, a.lo, a.rows.far (a.rows.ne a.own (by decide)) _ _, a.own.put1 (fun _ => rfl) k hk x _ rfl, a.used.far (a.used.ne a.own (by decide)) _ _, a.ino.far (a.ino.ne a.own (by decide)) _ _⟩, h.below.setCell (p := ⟨g1, k, none⟩) a.lo.2.1 _⟩
theorem ChS.used (h : ChS w W bc g0 k0 g1 k1 g2 k2 g3 k3 M) (k : Nat) (hk : k < M.used.length) (x : Int) : ChS w (W.setCell ⟨g2, k, none⟩ (.int .u8 x)) bc g0 k0 g1 k1 g2 k2 g3 k3 (setUsed M k x) := by
  have e : ∀ j, j ≠ g2 → (W.setCell ⟨g2, k, none⟩ (.int .u8 x)).heap[j]? = W.heap[j]? := fun j hj => Below.heap_setCell W ⟨g2, k, none⟩ (.int .u8 x) j hj
  have a := h.all
  exact ⟨(e _ (a.used.ne_blk h.geo (by decide)).symm).trans h.geo, (e _ (a.used.ne_blk h.res (by decide)).symm).trans h.res, (e _ (a.used.ne_blk h.met (by decide)).symm).trans h.met, h.lo,
    ⟨a.cap, a.lo, a.rows.far (a.rows.ne a.used (by decide)) _ _, a.own.far (a.own.ne a.used (by decide)) _ _, a.used.put1 (fun _ => rfl) k hk x _ rfl, a.ino.far (a.ino.ne a.used (by decide)) _ _⟩, h.below.setCell (p := ⟨g2, k, none⟩) a.lo.2.2.1 _⟩
theorem ChS.ino (h : ChS w W bc g0 k0 g1 k1 g2 k2 g3 k3 M) (cells : Array Value) (k : Nat) (x : Int × Int) (hr : RowB (W.setRow g3 cells) g3 83 inoC (M.ino.set k x)) : ChS w (W.setRow g3 cells) bc g0 k0 g1 k1 g2 k2 g3 k3 (setIno M k x) := by
  have e : ∀ j, j ≠ g3 → (W.setRow g3 cells).heap[j]? = W.heap[j]? := fun j hj => setRow_other W g3 j cells hj
  have a := h.all
  exact ⟨(e _ (a.ino.ne_blk h.geo (by decide)).symm).trans h.geo, (e _ (a.ino.ne_blk h.res (by decide)).symm).trans h.res, (e _ (a.ino.ne_blk h.met (by decide)).symm).trans h.met, h.lo,
    ⟨a.cap, a.lo, a.rows.step (e _ (a.rows.ne a.ino (by decide))), a.own.step (e _ (a.own.ne a.ino (by decide))), a.used.step (e _ (a.used.ne a.ino (by decide))), hr⟩, below_setRow h.below a.lo.2.2.2 _⟩
end
set_option maxHeartbeats 4000000 in
set_option maxRecDepth 100000 in
theorem change_any (ok : Nat → Prop) (A0 : Addr) (c0 : Nat) (A1 : Addr) (c1 : Nat) (A2 : Addr) (c2 : Nat) (A3 : Addr) (c3 : Nat) (M : Mt) (A : Option Addr) (c : Nat) (l : List Kn) (w : World) (h : MetaF w ok A0 c0 A1 c1 A2 c2 A3 c3 M) (hM : MtOk M) (hl : KNK.C w A l.length l) (hk : ∀ x ∈ l, KnOk x) :
    Calls Try.prog 9 #[.agg geoC, .agg (metaC A0 c0 A1 c1 A2 c2 A3 c3), .slice A l.length c] w fun e w' => ∃ g0 k0 g1 k1 g2 k2 g3 k3 M', e = .returned (.tuple #[.agg (metaC ⟨g0, 0, none⟩ k0 ⟨g1, 0, none⟩ k1 ⟨g2, 0, none⟩ k2 ⟨g3, 0, none⟩ k3), .bool true]) ∧ MtOk M' ∧ MetaB w' w.heap.size g0 k0 g1 k1 g2 k2 g3 k3 M' ∧ Below w.heap.size w w' := by
  have HM := Lib.hid hM
  have HF := Lib.hid h
  have HL := Lib.hid hl
  have HK := Lib.hid hk
  clear hM h hl hk
  unfold geoC metaC
  go_enter Try.func9, Try.ntmps9
  go_wp2_with fail
  obtain ⟨w1, hw1⟩ : ∃ w1, ((w.alloc (Obj.cells #[.int .i64 30, .int .i64 12, .int .i64 6, .int .i64 8] 25)).alloc (Obj.cells #[.slice (some A0) 16 c0, .slice (some A1) 6 c1, .slice (some A2) 64 c2, .slice (some A3) 12 c3] 36)).alloc (Obj.cells #[.slice none 0 0, .slice none 0 0, .slice none 0 0, .slice none 0 0] 36) = w1 := ⟨_, rfl⟩
  have h1g : w1.heap[w.heap.size]? = some (.cells #[.int .i64 30, .int .i64 12, .int .i64 6, .int .i64 8] 25 (0, 0)) := by rw [← hw1]; exact blk_alloc (blk_alloc (blk_new _ _) _) _
  have h1m : w1.heap[w.heap.size + 1]? = some (.cells #[.slice (some A0) 16 c0, .slice (some A1) 6 c1, .slice (some A2) 64 c2, .slice (some A3) 12 c3] 36 (0, 0)) := by
    rw [← hw1]
    have := blk_alloc (blk_new (w.alloc (Obj.cells #[.int .i64 30, .int .i64 12, .int .i64 6, .int .i64 8] 25)) (Obj.cells #[.slice (some A0) 16 c0, .slice (some A1) 6 c1, .slice (some A2) 64 c2, .slice (some A3) 12 c3] 36)) (Obj.cells #[.slice none 0 0, .slice none 0 0, .slice none 0 0, .slice none 0 0] 36)
    simpa using this
  have h1r : w1.heap[w.heap.size + 1 + 1]? = some (.cells #[.slice none 0 0, .slice none 0 0, .slice none 0 0, .slice none 0 0] 36 (0, 0)) := by
    rw [← hw1]
    have := blk_new ((w.alloc (Obj.cells #[.int .i64 30, .int .i64 12, .int .i64 6, .int .i64 8] 25)).alloc (Obj.cells #[.slice (some A0) 16 c0, .slice (some A1) 6 c1, .slice (some A2) 64 c2, .slice (some A3) 12 c3] 36)) (Obj.cells #[.slice none 0 0, .slice none 0 0, .slice none 0 0, .slice none 0 0] 36)
    simpa using this
  have hB1 : Below w.heap.size w w1 := by rw [← hw1]; exact below_alloc (below_alloc (below_alloc (Below.refl _ _) _) _) _
  rw [hw1]
  clear hw1
  have p0 : w1.cell? ⟨w.heap.size + 1, 0, none⟩ = some (.slice (some A0) 16 c0) := blk_cell h1m 0
  have p1 : w1.cell? ⟨w.heap.size + 1, 1, none⟩ = some (.slice (some A1) 6 c1) := blk_cell h1m 1
  have p2 : w1.cell? ⟨w.heap.size + 1, 2, none⟩ = some (.slice (some A2) 64 c2) := blk_cell h1m 2
  have p3 : w1.cell? ⟨w.heap.size + 1, 3, none⟩ = some (.slice (some A3) 12 c3) := blk_cell h1m 3
  have G1 := Lib.hid h1g
  have R1 := Lib.hid h1r
  have B1 := Lib.hid hB1
  clear h1g h1m h1r hB1
  go_wp2_with fail
  clear p0 p1 p2 p3
  refine (metacopy_any _ A0 c0 A1 c1 A2 c2 A3 c3 M w1 (HF.out.below B1.out) HM.out).mono ?_
  rintro e w2 ⟨g0, k0, g1, k1, g2, k2, g3, k3, rfl, hmb, hB2⟩
  unfold metaC
  have hgb := blk_below (blk_below G1.out hB2) (below_alloc (Below.refl w2.heap.size w2) (Obj.cells #[.slice (some ⟨g0, 0, none⟩) 16 k0, .slice (some ⟨g1, 0, none⟩) 6 k1, .slice (some ⟨g2, 0, none⟩) 64 k2, .slice (some ⟨g3, 0, none⟩) 12 k3] 36))
  have hC3 : ChS w (w2.alloc (Obj.cells #[.slice (some ⟨g0, 0, none⟩) 16 k0, .slice (some ⟨g1, 0, none⟩) 6 k1, .slice (some ⟨g2, 0, none⟩) 64 k2, .slice (some ⟨g3, 0, none⟩) 12 k3] 36)) w2.heap.size g0 k0 g1 k1 g2 k2 g3 k3 M :=
    ⟨hgb, blk_below (blk_below R1.out hB2) (below_alloc (Below.refl _ _) _), blk_new _ _, blk_lt (blk_below R1.out hB2), (hmb.lower B1.out.size).below (below_alloc (Below.refl _ _) _), below_alloc (below_step B1.out hB2) _⟩
  have x2 : (w2.alloc (Obj.cells #[.slice (some ⟨g0, 0, none⟩) 16 k0, .slice (some ⟨g1, 0, none⟩) 6 k1, .slice (some ⟨g2, 0, none⟩) 64 k2, .slice (some ⟨g3, 0, none⟩) 12 k3] 36)).cell? ⟨w.heap.size, 2, none⟩ = some (.int .i64 6) := blk_cell hgb 2
  have x1 : (w2.alloc (Obj.cells #[.slice (some ⟨g0, 0, none⟩) 16 k0, .slice (some ⟨g1, 0, none⟩) 6 k1, .slice (some ⟨g2, 0, none⟩) 64 k2, .slice (some ⟨g3, 0, none⟩) 12 k3] 36)).cell? ⟨w.heap.size, 1, none⟩ = some (.int .i64 12) := blk_cell hgb 1
  have HC3 := Lib.hid hC3
  clear hgb hC3 hmb hB2 G1 R1 B1
  go_wp2_with fail
  clear x2 x1
  obtain ⟨w3, hw3⟩ : ∃ w3, w2.alloc (Obj.cells #[.slice (some ⟨g0, 0, none⟩) 16 k0, .slice (some ⟨g1, 0, none⟩) 6 k1, .slice (some ⟨g2, 0, none⟩) 64 k2, .slice (some ⟨g3, 0, none⟩) 12 k3] 36) = w3 := ⟨_, rfl⟩
  obtain ⟨bc, hbc⟩ : ∃ b, w2.heap.size = b := ⟨_, rfl⟩
  rw [hw3, hbc] at HC3
  rw [hw3, hbc]
  clear hw3 hbc
  obtain ⟨n, hn⟩ : ∃ n, l.length = n := ⟨_, rfl⟩
  have Hn := Lib.hid hn
  rw [hn] at HL ⊢
  clear hn
  go_loopg [38] n (fun q i wr => ∃ k M', k + q = n ∧ i = .int .i64 (k : Int) ∧ Hid (MtOk M') ∧ Hid (ChS w wr bc g0 k0 g1 k1 g2 k2 g3 k3 M'))
  case atStart => exact ⟨0, M, Nat.zero_add _, rfl, HM, HC3⟩
  case round =>
    clear HC3
    obtain ⟨k, M', hq, rfl, HM', hC⟩ := hrel
    cases gk with
    | zero =>
      obtain rfl : k = n := by omega
      have d1 : decide ((k : Int) < (k : Int)) = false := decide_eq_false (by omega)
      have HCz := Lib.hid (show ChS w wr bc g0 k0 g1 k1 g2 k2 g3 k3 M' from hC.out)
      have m0 : wr.cell? ⟨bc, 0, none⟩ = some (.slice (some ⟨g0, 0, none⟩) 16 k0) := blk_cell HCz.out.met 0
      have m1 : wr.cell? ⟨bc, 1, none⟩ = some (.slice (some ⟨g1, 0, none⟩) 6 k1) := blk_cell HCz.out.met 1
      have m2 : wr.cell? ⟨bc, 2, none⟩ = some (.slice (some ⟨g2, 0, none⟩) 64 k2) := blk_cell HCz.out.met 2
      have m3 : wr.cell? ⟨bc, 3, none⟩ = some (.slice (some ⟨g3, 0, none⟩) 12 k3) := blk_cell HCz.out.met 3
      have r0 : wr.cell? ⟨w.heap.size + 1 + 1, 0, none⟩ = some (.slice none 0 0) := blk_cell HCz.out.res 0
      have r1 : wr.cell? ⟨w.heap.size + 1 + 1, 1, none⟩ = some (.slice none 0 0) := blk_cell HCz.out.res 1
      have r2 : wr.cell? ⟨w.heap.size + 1 + 1, 2, none⟩ = some (.slice none 0 0) := blk_cell HCz.out.res 2
      have r3 : wr.cell? ⟨w.heap.size + 1 + 1, 3, none⟩ = some (.slice none 0 0) := blk_cell HCz.out.res 3
      have f0 := blk_frozen HCz.out.res 0
      have f1 := blk_frozen HCz.out.res 1
      have f2 := blk_frozen HCz.out.res 2
      have f3 := blk_frozen HCz.out.res 3
      clear hC
      go_wp2_with fail
      clear m0 m1 m2 m3 r0 r1 r2 r3 f0 f1 f2 f3
      have hr9 := HCz.out.res
      refine bodyPost_ret (results_cell_tmp rfl _ _ (w.heap.size + 1 + 1) 36 #[.slice (some ⟨g0, 0, none⟩) 16 k0, .slice (some ⟨g1, 0, none⟩) 6 k1, .slice (some ⟨g2, 0, none⟩) 64 k2, .slice (some ⟨g3, 0, none⟩) 12 k3] (0, 0) _ rfl ?_ Try.underlying36 rfl sz_meta) rfl ?_
      · exact blk_put (blk_put (blk_put (blk_put hr9 0 _ rfl) 1 _ rfl) 2 _ rfl) 3 _ rfl
      · have a := HCz.out.all
        have d0 := a.rows.ne_blk hr9 (by decide)
        have d1 := a.own.ne_blk hr9 (by decide)
        have d2 := a.used.ne_blk hr9 (by decide)
        have d3 := a.ino.ne_blk hr9 (by decide)
        refine ⟨g0, k0, g1, k1, g2, k2, g3, k3, M', rfl, HM'.out, ⟨a.cap, a.lo, (((a.rows.far d0 _ _).far d0 _ _).far d0 _ _).far d0 _ _, (((a.own.far d1 _ _).far d1 _ _).far d1 _ _).far d1 _ _, (((a.used.far d2 _ _).far d2 _ _).far d2 _ _).far d2 _ _, (((a.ino.far d3 _ _).far d3 _ _).far d3 _ _).far d3 _ _⟩, ?_⟩
        exact ((((HCz.out.below).setCell (p := ⟨w.heap.size + 1 + 1, 0, none⟩) (by show w.heap.size ≤ w.heap.size + 1 + 1; omega) _).setCell (p := ⟨w.heap.size + 1 + 1, 1, none⟩) (by show w.heap.size ≤ w.heap.size + 1 + 1; omega) _).setCell (p := ⟨w.heap.size + 1 + 1, 2, none⟩) (by show w.heap.size ≤ w.heap.size + 1 + 1; omega) _).setCell (p := ⟨w.heap.size + 1 + 1, 3, none⟩) (by show w.heap.size ≤ w.heap.size + 1 + 1; omega) _
    | succ q =>
      have d1 : decide ((k : Int) < (n : Int)) = true := decide_eq_true (by omega)
      have q0 : 0 ≤ (k : Int) := by omega
      have q1 : (k : Int) < (n : Int) := by omega
      obtain ⟨al, hal, -⟩ := HL.out.2.2 (by omega)
      subst hal
      have hkl : k < l.length := by rw [Hn.out]; omega
      have hat := flat_at (Kd.C_below HL.out hC.out.below) k hkl
      obtain ⟨x, hx⟩ : ∃ x, l[k] = x := ⟨_, rfl⟩
      have hok : KnOk x := HK.out x (by rw [← hx]; exact List.getElem_mem hkl)
      rw [hx] at hat
      obtain ⟨xo, xb, xi, xs⟩ := x
      have hload := load_any wr (al.add (k * 4)) 86 (knC (xo, xb, xi, xs)) _ hat Try.underlying86 rfl (by rw [sz_known]; rfl)
      have hca : (knC (xo, xb, xi, xs)).toArray = #[.int .u8 xo, .int .u16 xb, .int .u8 xi, .int .u16 xs] := rfl
      rw [hca] at hload
      have Hload := Lib.hid hload
      have Hok := Lib.hid hok
      clear hat hx hok hkl hload hca
      by_cases h20 : 20 ≤ k
      · have d2 : decide ((k : Int) ≥ 20) = true := decide_eq_true (by omega)
        have HCz := Lib.hid (show ChS w (wr.alloc (Obj.cells #[.int .u8 xo, .int .u16 xb, .int .u8 xi, .int .u16 xs] 86)) bc g0 k0 g1 k1 g2 k2 g3 k3 M' from hC.out.step (below_alloc (Below.refl _ _) _))
        have m0 : (wr.alloc (Obj.cells #[.int .u8 xo, .int .u16 xb, .int .u8 xi, .int .u16 xs] 86)).cell? ⟨bc, 0, none⟩ = some (.slice (some ⟨g0, 0, none⟩) 16 k0) := blk_cell HCz.out.met 0
        have m1 : (wr.alloc (Obj.cells #[.int .u8 xo, .int .u16 xb, .int .u8 xi, .int .u16 xs] 86)).cell? ⟨bc, 1, none⟩ = some (.slice (some ⟨g1, 0, none⟩) 6 k1) := blk_cell HCz.out.met 1
        have m2 : (wr.alloc (Obj.cells #[.int .u8 xo, .int .u16 xb, .int .u8 xi, .int .u16 xs] 86)).cell? ⟨bc, 2, none⟩ = some (.slice (some ⟨g2, 0, none⟩) 64 k2) := blk_cell HCz.out.met 2
        have m3 : (wr.alloc (Obj.cells #[.int .u8 xo, .int .u16 xb, .int .u8 xi, .int .u16 xs] 86)).cell? ⟨bc, 3, none⟩ = some (.slice (some ⟨g3, 0, none⟩) 12 k3) := blk_cell HCz.out.met 3
        have r0 : (wr.alloc (Obj.cells #[.int .u8 xo, .int .u16 xb, .int .u8 xi, .int .u16 xs] 86)).cell? ⟨w.heap.size + 1 + 1, 0, none⟩ = some (.slice none 0 0) := blk_cell HCz.out.res 0
        have r1 : (wr.alloc (Obj.cells #[.int .u8 xo, .int .u16 xb, .int .u8 xi, .int .u16 xs] 86)).cell? ⟨w.heap.size + 1 + 1, 1, none⟩ = some (.slice none 0 0) := blk_cell HCz.out.res 1
        have r2 : (wr.alloc (Obj.cells #[.int .u8 xo, .int .u16 xb, .int .u8 xi, .int .u16 xs] 86)).cell? ⟨w.heap.size + 1 + 1, 2, none⟩ = some (.slice none 0 0) := blk_cell HCz.out.res 2
        have r3 : (wr.alloc (Obj.cells #[.int .u8 xo, .int .u16 xb, .int .u8 xi, .int .u16 xs] 86)).cell? ⟨w.heap.size + 1 + 1, 3, none⟩ = some (.slice none 0 0) := blk_cell HCz.out.res 3
        have f0 := blk_frozen HCz.out.res 0
        have f1 := blk_frozen HCz.out.res 1
        have f2 := blk_frozen HCz.out.res 2
        have f3 := blk_frozen HCz.out.res 3
        clear hC
        go_wp2_with (first | ((with_reducible refine gate_load 86 (.tmp 41) rfl ?_); refine wpList_load_eq rfl _ _ rfl _ _ rfl Hload.out ?_))
        clear m0 m1 m2 m3 r0 r1 r2 r3 f0 f1 f2 f3
        have hr9 := HCz.out.res
        refine bodyPost_ret (results_cell_tmp rfl _ _ (w.heap.size + 1 + 1) 36 #[.slice (some ⟨g0, 0, none⟩) 16 k0, .slice (some ⟨g1, 0, none⟩) 6 k1, .slice (some ⟨g2, 0, none⟩) 64 k2, .slice (some ⟨g3, 0, none⟩) 12 k3] (0, 0) _ rfl ?_ Try.underlying36 rfl sz_meta) rfl ?_
        · exact blk_put (blk_put (blk_put (blk_put hr9 0 _ rfl) 1 _ rfl) 2 _ rfl) 3 _ rfl
        · have a := HCz.out.all
          have d0 := a.rows.ne_blk hr9 (by decide)
          have d1 := a.own.ne_blk hr9 (by decide)
          have d2 := a.used.ne_blk hr9 (by decide)
          have d3 := a.ino.ne_blk hr9 (by decide)
          refine ⟨g0, k0, g1, k1, g2, k2, g3, k3, M', rfl, HM'.out, ⟨a.cap, a.lo, (((a.rows.far d0 _ _).far d0 _ _).far d0 _ _).far d0 _ _, (((a.own.far d1 _ _).far d1 _ _).far d1 _ _).far d1 _ _, (((a.used.far d2 _ _).far d2 _ _).far d2 _ _).far d2 _ _, (((a.ino.far d3 _ _).far d3 _ _).far d3 _ _).far d3 _ _⟩, ?_⟩
          exact ((((HCz.out.below).setCell (p := ⟨w.heap.size + 1 + 1, 0, none⟩) (by show w.heap.size ≤ w.heap.size + 1 + 1; omega) _).setCell (p := ⟨w.heap.size + 1 + 1, 1, none⟩) (by show w.heap.size ≤ w.heap.size + 1 + 1; omega) _).setCell (p := ⟨w.heap.size + 1 + 1, 2, none⟩) (by show w.heap.size ≤ w.heap.size + 1 + 1; omega) _).setCell (p := ⟨w.heap.size + 1 + 1, 3, none⟩) (by show w.heap.size ≤ w.heap.size + 1 + 1; omega) _
      · have d2 : decide ((k : Int) ≥ 20) = false := decide_eq_false (by omega)
        have y2 : ∀ o, (wr.alloc o).cell? ⟨w.heap.size, 2, none⟩ = some (.int .i64 6) := fun o => blk_cell (blk_alloc hC.out.geo o) 2
        go_wp2_with (first | ((with_reducible refine gate_load 86 (.tmp 41) rfl ?_); refine wpList_load_eq rfl _ _ rfl _ _ rfl Hload.out ?_))
        clear y2
        have hka : ((wr.alloc (Obj.cells #[.int .u8 xo, .int .u16 xb, .int .u8 xi, .int .u16 xs] 86))).heap[wr.heap.size]? = some (.cells #[.int .u8 xo, .int .u16 xb, .int .u8 xi, .int .u16 xs] 86 (0, 0)) := blk_new _ _
        have hCa : ChS w (wr.alloc (Obj.cells #[.int .u8 xo, .int .u16 xb, .int .u8 xi, .int .u16 xs] 86)) bc g0 k0 g1 k1 g2 k2 g3 k3 M' := hC.out.step (below_alloc (Below.refl _ _) _)
        obtain ⟨wa, hwa⟩ : ∃ wa, (wr.alloc (Obj.cells #[.int .u8 xo, .int .u16 xb, .int .u8 xi, .int .u16 xs] 86)) = wa := ⟨_, rfl⟩
        obtain ⟨gk, hgk⟩ : ∃ g, wr.heap.size = g := ⟨_, rfl⟩
        rw [hwa] at hka hCa ⊢
        rw [hgk] at hka ⊢
        have KA := Lib.hid hka
        have HCa := Lib.hid hCa
        obtain ⟨i6, hi6, hlt6⟩ : ∃ i6 : Nat, (wrap64 xo).tmod 6 = (i6 : Int) ∧ i6 < 6 := by
          have hx : 0 ≤ xo ∧ xo < 256 := Hok.out.1
          have e1 : wrap64 xo = xo := by unfold wrap64; omega
          refine ⟨(xo % 6).toNat, ?_, ?_⟩
          · rw [e1, Int.tmod_eq_emod_of_nonneg hx.1]; omega
          · omega
        rw [hi6]
        have q2 : 0 ≤ (i6 : Int) := by omega
        have q3 : (i6 : Int) < 6 := by omega
        have M1 : Hid (∀ w', Below wa.heap.size wa w' → w'.cell? ⟨bc, 1, none⟩ = some (.slice (some ⟨g1, 0, none⟩) 6 k1)) := Lib.hid (fun w' hS => blk_cell (blk_below hCa.met hS) 1)
        have hol : i6 < M'.own.length := by rw [HM'.out.olen]; exact hlt6
        obtain ⟨v6, hv6⟩ : ∃ v, M'.own[i6] = v := ⟨_, rfl⟩
        have hvb := HM'.out.own v6 (by rw [← hv6]; exact List.getElem_mem hol)
        have O1 : Hid (∀ w', Below wa.heap.size wa w' → w'.cell? ⟨g1, i6, none⟩ = some (.int .i64 v6)) := Lib.hid (fun w' hS => by
          have := (hCa.all.own.below hS).cell (n := 1) (fun _ => rfl) i6 0 hol (by decide)
          rw [hv6] at this
          simpa [i64C] using this)
        have Hvb := Lib.hid (And.intro hol hvb)
        clear hka hCa hwa hgk hi6 hol hv6 hvb hlt6 hC Hload
        refine start_ (n := 12) (S := (fun W => Below wa.heap.size wa W)) (ds := [11]) #[false, false, false, false, false, false, false, false, false, false, false, false] (by kernel_rfl) rfl rfl (below_drew (Below.refl _ _)) (fun hHeld => ?_)
        refine pure_ (i := 0) (N := some 51) (v := ?_) (a' := ?_) #[true, false, false, false, false, false, false, false, false, false, false, false] rfl rfl (by kernel_rfl) (fun _ _ _ h => h) (Or.inl ⟨by rfl, ?_⟩) ?_ ?_
        rotate_left
        · intro w'
          go_simp
          with_reducible rfl
        rotate_left
        · simp only [Act.put, List.setIfInBounds_toArray, List.set_cons_zero, List.set_cons_succ, i64_w, i32_w]
          rfl
        refine take_ (i := 1) (N := some 52) (v := ?_) (a' := ?_) #[true, true, false, false, false, false, false, false, false, false, false, false] rfl rfl (by kernel_rfl) (fun _ _ _ h => h) (Or.inl ⟨by rfl, ?_⟩) hHeld ?_ ?_
        rotate_left
        · rintro w' hS
          have y := M1.out w' hS
          go_simp
          with_reducible rfl
        rotate_left
        · simp only [Act.put, List.setIfInBounds_toArray, List.set_cons_zero, List.set_cons_succ, i64_w, i32_w]
          rfl
        refine pure_ (i := 2) (N := some 53) (v := ?_) (a' := ?_) #[true, true, true, false, false, false, false, false, false, false, false, false] rfl rfl (by kernel_rfl) (fun _ _ _ h => h) (Or.inl ⟨by rfl, ?_⟩) ?_ ?_
        rotate_left
        · intro w'
          go_simp
          with_reducible rfl
        rotate_left
        · simp only [Act.put, List.setIfInBounds_toArray, List.set_cons_zero, List.set_cons_succ, i64_w, i32_w]
          rfl
        refine pure_ (i := 3) (N := some 54) (v := ?_) (a' := ?_) #[true, true, true, true, false, false, false, false, false, false, false, false] rfl rfl (by kernel_rfl) (fun _ _ _ h => h) (Or.inl ⟨by rfl, ?_⟩) ?_ ?_
        rotate_left
        · intro w'
          go_simp
          with_reducible rfl
        rotate_left
        · simp only [Act.put, List.setIfInBounds_toArray, List.set_cons_zero, List.set_cons_succ, i64_w, i32_w]
          rfl
        refine take_ (i := 4) (N := some 55) (v := ?_) (a' := ?_) #[true, true, true, true, true, false, false, false, false, false, false, false] rfl rfl (by kernel_rfl) (fun _ _ _ h => h) (Or.inl ⟨by rfl, ?_⟩) hHeld ?_ ?_
        rotate_left
        · rintro w' hS
          have y := M1.out w' hS
          go_simp
          with_reducible rfl
        rotate_left
        · simp only [Act.put, List.setIfInBounds_toArray, List.set_cons_zero, List.set_cons_succ, i64_w, i32_w]
          rfl
        refine pure_ (i := 5) (N := some 56) (v := ?_) (a' := ?_) #[true, true, true, true, true, true, false, false, false, false, false, false] rfl rfl (by kernel_rfl) (fun _ _ _ h => h) (Or.inl ⟨by rfl, ?_⟩) ?_ ?_
        rotate_left
        · intro w'
          go_simp
          with_reducible rfl
        rotate_left
        · simp only [Act.put, List.setIfInBounds_toArray, List.set_cons_zero, List.set_cons_succ, i64_w, i32_w]
          rfl
        refine pure_ (i := 6) (N := some 57) (v := ?_) (a' := ?_) #[true, true, true, true, true, true, true, false, false, false, false, false] rfl rfl (by kernel_rfl) (fun _ _ _ h => h) (Or.inl ⟨by rfl, ?_⟩) ?_ ?_
        rotate_left
        · intro w'
          go_simp
          with_reducible rfl
        rotate_left
        · simp only [Act.put, List.setIfInBounds_toArray, List.set_cons_zero, List.set_cons_succ, i64_w, i32_w]
          rfl
        refine take_ (i := 7) (N := some 58) (v := ?_) (a' := ?_) #[true, true, true, true, true, true, true, true, false, false, false, false] rfl rfl (by kernel_rfl) (fun _ _ _ h => h) (Or.inl ⟨by rfl, ?_⟩) hHeld ?_ ?_
        rotate_left
        · rintro w' hS
          have y := O1.out w' hS
          go_simp
          with_reducible rfl
        rotate_left
        · simp only [Act.put, List.setIfInBounds_toArray, List.set_cons_zero, List.set_cons_succ, i64_w, i32_w]
          rfl
        refine pure_ (i := 8) (N := some 59) (v := ?_) (a' := ?_) #[true, true, true, true, true, true, true, true, true, false, false, false] rfl rfl (by kernel_rfl) (fun _ _ _ h => h) (Or.inl ⟨by rfl, ?_⟩) ?_ ?_
        rotate_left
        · intro w'
          go_simp
          with_reducible rfl
        rotate_left
        · simp only [Act.put, List.setIfInBounds_toArray, List.set_cons_zero, List.set_cons_succ, i64_w, i32_w]
          rfl
        refine pure_ (i := 9) (N := some 60) (v := ?_) (a' := ?_) #[true, true, true, true, true, true, true, true, true, true, false, false] rfl rfl (by kernel_rfl) (fun _ _ _ h => h) (Or.inl ⟨by rfl, ?_⟩) ?_ ?_
        rotate_left
        · intro w'
          go_simp
          with_reducible rfl
        rotate_left
        · simp only [Act.put, List.setIfInBounds_toArray, List.set_cons_zero, List.set_cons_succ, i64_w, i32_w]
          rfl
        refine pure_ (i := 10) (N := some 61) (v := ?_) (a' := ?_) #[true, true, true, true, true, true, true, true, true, true, true, false] rfl rfl (by kernel_rfl) (fun _ _ _ h => h) (Or.inl ⟨by rfl, ?_⟩) ?_ ?_
        rotate_left
        · intro w'
          go_simp
          with_reducible rfl
        rotate_left
        · simp only [Act.put, List.setIfInBounds_toArray, List.set_cons_zero, List.set_cons_succ, i64_w, i32_w]
          rfl
        refine last_ (i := 11) (N := none) #[true, true, true, true, true, true, true, true, true, true, true, true] rfl rfl (by kernel_rfl) (by decide) (fun K hK => ?_)
        have c1 := O1.out wa (Below.refl _ _)
        have f1 := HCa.out.all.own.frozen i6
        rw [if_pos (by rfl)]
        unfold Oper.wp
        go_simp
        refine hK.out _ _ ?_
        clear hK K
        refine done_ (by kernel_rfl) ?_
        obtain ⟨z6, hz6⟩ : ∃ z, (wrap64 (v6 + 1)).tmod 17 = z := ⟨_, rfl⟩
        rw [hz6]
        have hz6b : 0 ≤ z6 ∧ z6 ≤ 16 := by
          have hv := Hvb.out.2
          have e1 : wrap64 (v6 + 1) = v6 + 1 := by unfold wrap64; omega
          rw [← hz6, e1, Int.tmod_eq_emod_of_nonneg (by omega)]
          omega
        obtain ⟨wb, hwb⟩ : ∃ wb, (wa.setCell ⟨g1, i6, none⟩ (.int .i64 z6)).drew = wb := ⟨_, rfl⟩
        have hCb : ChS w wb bc g0 k0 g1 k1 g2 k2 g3 k3 (setOwn M' i6 z6) := by rw [← hwb]; exact (HCa.out.own i6 Hvb.out.1 z6).step (below_drew (Below.refl _ _))
        have hkb : wb.heap[gk]? = some (.cells #[.int .u8 xo, .int .u16 xb, .int .u8 xi, .int .u16 xs] 86 (0, 0)) := by
          rw [← hwb, heap_drew]
          exact (Below.heap_setCell wa ⟨g1, i6, none⟩ (.int .i64 z6) gk (HCa.out.all.own.ne_blk KA.out (by decide)).symm).trans KA.out
        have hMb := own_ok HM'.out i6 z6 hz6b
        obtain ⟨Mb, hMb0⟩ : ∃ m, setOwn M' i6 z6 = m := ⟨_, rfl⟩
        rw [hMb0] at hCb hMb
        rw [hwb]
        have z1 : wb.cell? ⟨gk, 1, none⟩ = some (.int .u16 xb) := blk_cell hkb 1
        have y2 : wb.cell? ⟨w.heap.size, 2, none⟩ = some (.int .i64 6) := blk_cell hCb.geo 2
        have y3 : wb.cell? ⟨w.heap.size, 3, none⟩ = some (.int .i64 8) := blk_cell hCb.geo 3
        have HCb := Lib.hid hCb
        have KB := Lib.hid hkb
        have HMb := Lib.hid hMb
        clear c1 f1 hHeld hz6 hz6b hwb hMb0 hCb hkb hMb HCa KA M1 O1 Hvb HM' q2 q3
        go_wp2_with fail
        clear z1 y2 y3
        obtain ⟨b48, hb48, hltb⟩ : ∃ b : Nat, (wrap64 xb).tmod 48 = (b : Int) ∧ b < 48 := by
          have hx : 0 ≤ xb ∧ xb < 65536 := Hok.out.2.1
          have e1 : wrap64 xb = xb := by unfold wrap64; omega
          refine ⟨(xb % 48).toNat, ?_, ?_⟩
          · rw [e1, Int.tmod_eq_emod_of_nonneg hx.1]; omega
          · omega
        rw [hb48]
        obtain ⟨b8, hb8, hltb8⟩ : ∃ b : Nat, (b48 : Int).tdiv 8 = (b : Int) ∧ b < 6 := ⟨b48 / 8, by rw [Int.tdiv_eq_ediv_of_nonneg (by omega)]; omega, by omega⟩
        obtain ⟨r8, hr8, hltr8⟩ : ∃ b : Nat, (b48 : Int).tmod 8 = (b : Int) ∧ b < 8 := ⟨b48 % 8, by rw [Int.tmod_eq_emod_of_nonneg (by omega)]; omega, by omega⟩
        have e8 : wrap64 (b8 : Int) = (b8 : Int) := by unfold wrap64; omega
        have q2 : 0 ≤ (b8 : Int) := by omega
        have q3 : (b8 : Int) < 64 := by omega
        have q4 : 0 ≤ (r8 : Int) := by omega
        have q5 : ¬ ((r8 : Int) < 0) := by omega
        have M2 : Hid (∀ w', Below wb.heap.size wb w' → w'.cell? ⟨bc, 2, none⟩ = some (.slice (some ⟨g2, 0, none⟩) 64 k2)) := Lib.hid (fun w' hS => blk_cell (blk_below HCb.out.met hS) 2)
        have hul : b8 < Mb.used.length := by rw [HMb.out.used.len]; omega
        obtain ⟨v8, hv8⟩ : ∃ v, Mb.used[b8] = v := ⟨_, rfl⟩
        have O2 : Hid (∀ w', Below wb.heap.size wb w' → w'.cell? ⟨g2, b8, none⟩ = some (.int .u8 v8)) := Lib.hid (fun w' hS => by
          have := (HCb.out.all.used.below hS).cell (n := 1) (fun _ => rfl) b8 0 hul (by decide)
          rw [hv8] at this
          simpa [u8C] using this)
        have Hul := Lib.hid (And.intro hul hltb8)
        clear hb48 hltb hltb8 hltr8 hul hv8
        refine start_ (n := 12) (S := (fun W => Below wb.heap.size wb W)) (ds := [11]) #[false, false, false, false, false, false, false, false, false, false, false, false] (by kernel_rfl) rfl rfl (below_drew (Below.refl _ _)) (fun hHeld => ?_)
        refine pure_ (i := 0) (N := some 71) (v := ?_) (a' := ?_) #[true, false, false, false, false, false, false, false, false, false, false, false] rfl rfl (by kernel_rfl) (fun _ _ _ h => h) (Or.inl ⟨by rfl, ?_⟩) ?_ ?_
        rotate_left
        · intro w'
          go_simp
          with_reducible rfl
        rotate_left
        · simp only [Act.put, List.setIfInBounds_toArray, List.set_cons_zero, List.set_cons_succ, i64_w, i32_w]
          rfl
        refine take_ (i := 1) (N := some 72) (v := ?_) (a' := ?_) #[true, true, false, false, false, false, false, false, false, false, false, false] rfl rfl (by kernel_rfl) (fun _ _ _ h => h) (Or.inl ⟨by rfl, ?_⟩) hHeld ?_ ?_
        rotate_left
        · rintro w' hS
          have y := M2.out w' hS
          go_simp
          with_reducible rfl
        rotate_left
        · simp only [Act.put, List.setIfInBounds_toArray, List.set_cons_zero, List.set_cons_succ, i64_w, i32_w]
          rfl
        refine pure_ (i := 2) (N := some 73) (v := ?_) (a' := ?_) #[true, true, true, false, false, false, false, false, false, false, false, false] rfl rfl (by kernel_rfl) (fun _ _ _ h => h) (Or.inl ⟨by rfl, ?_⟩) ?_ ?_
        rotate_left
        · intro w'
          go_simp
          with_reducible rfl
        rotate_left
        · simp only [Act.put, List.setIfInBounds_toArray, List.set_cons_zero, List.set_cons_succ, i64_w, i32_w]
          rfl
        refine pure_ (i := 3) (N := some 74) (v := ?_) (a' := ?_) #[true, true, true, true, false, false, false, false, false, false, false, false] rfl rfl (by kernel_rfl) (fun _ _ _ h => h) (Or.inl ⟨by rfl, ?_⟩) ?_ ?_
        rotate_left
        · intro w'
          go_simp
          with_reducible rfl
        rotate_left
        · simp only [Act.put, List.setIfInBounds_toArray, List.set_cons_zero, List.set_cons_succ, i64_w, i32_w]
          rfl
        refine pure_ (i := 4) (N := some 75) (v := ?_) (a' := ?_) #[true, true, true, true, true, false, false, false, false, false, false, false] rfl rfl (by kernel_rfl) (fun _ _ _ h => h) (Or.inl ⟨by rfl, ?_⟩) ?_ ?_
        rotate_left
        · intro w'
          go_simp
          with_reducible rfl
        rotate_left
        · simp only [Act.put, List.setIfInBounds_toArray, List.set_cons_zero, List.set_cons_succ, i64_w, i32_w]
          rfl
        refine take_ (i := 5) (N := some 76) (v := ?_) (a' := ?_) #[true, true, true, true, true, true, false, false, false, false, false, false] rfl rfl (by kernel_rfl) (fun _ _ _ h => h) (Or.inl ⟨by rfl, ?_⟩) hHeld ?_ ?_
        rotate_left
        · rintro w' hS
          have y := O2.out w' hS
          go_simp
          with_reducible rfl
        rotate_left
        · simp only [Act.put, List.setIfInBounds_toArray, List.set_cons_zero, List.set_cons_succ, i64_w, i32_w]
          rfl
        refine pure_ (i := 6) (N := some 77) (v := ?_) (a' := ?_) #[true, true, true, true, true, true, true, false, false, false, false, false] rfl rfl (by kernel_rfl) (fun _ _ _ h => h) (Or.inl ⟨by rfl, ?_⟩) ?_ ?_
        rotate_left
        · intro w'
          go_simp
          with_reducible rfl
        rotate_left
        · simp only [Act.put, List.setIfInBounds_toArray, List.set_cons_zero, List.set_cons_succ, i64_w, i32_w]
          rfl
        refine pure_ (i := 7) (N := some 78) (v := ?_) (a' := ?_) #[true, true, true, true, true, true, true, true, false, false, false, false] rfl rfl (by kernel_rfl) (fun _ _ _ h => h) (Or.inl ⟨by rfl, ?_⟩) ?_ ?_
        rotate_left
        · intro w'
          go_simp
          with_reducible rfl
        rotate_left
        · simp only [Act.put, List.setIfInBounds_toArray, List.set_cons_zero, List.set_cons_succ, i64_w, i32_w]
          rfl
        refine pure_ (i := 8) (N := some 79) (v := ?_) (a' := ?_) #[true, true, true, true, true, true, true, true, true, false, false, false] rfl rfl (by kernel_rfl) (fun _ _ _ h => h) (Or.inl ⟨by rfl, ?_⟩) ?_ ?_
        rotate_left
        · intro w'
          go_simp
          with_reducible rfl
        rotate_left
        · simp only [Act.put, List.setIfInBounds_toArray, List.set_cons_zero, List.set_cons_succ, i64_w, i32_w]
          rfl
        refine pure_ (i := 9) (N := some 80) (v := ?_) (a' := ?_) #[true, true, true, true, true, true, true, true, true, true, false, false] rfl rfl (by kernel_rfl) (fun _ _ _ h => h) (Or.inl ⟨by rfl, ?_⟩) ?_ ?_
        rotate_left
        · intro w'
          go_simp
          with_reducible rfl
        rotate_left
        · simp only [Act.put, List.setIfInBounds_toArray, List.set_cons_zero, List.set_cons_succ, i64_w, i32_w]
          rfl
        refine pure_ (i := 10) (N := some 81) (v := ?_) (a' := ?_) #[true, true, true, true, true, true, true, true, true, true, true, false] rfl rfl (by kernel_rfl) (fun _ _ _ h => h) (Or.inl ⟨by rfl, ?_⟩) ?_ ?_
        rotate_left
        · intro w'
          go_simp
          with_reducible rfl
        rotate_left
        · simp only [Act.put, List.setIfInBounds_toArray, List.set_cons_zero, List.set_cons_succ, i64_w, i32_w]
          rfl
        refine last_ (i := 11) (N := none) #[true, true, true, true, true, true, true, true, true, true, true, true] rfl rfl (by kernel_rfl) (by decide) (fun K hK => ?_)
        have c1 := O2.out wb (Below.refl _ _)
        have f1 := HCb.out.all.used.frozen b8
        rw [if_pos (by rfl)]
        unfold Oper.wp
        go_simp
        refine hK.out _ _ ?_
        clear hK K
        refine done_ (by kernel_rfl) ?_
        obtain ⟨wc, hwc⟩ : ∃ wc, (wb.setCell ⟨g2, b8, none⟩ (.int .u8 (bits .xor .u8 v8 (IntKind.u8.wrap ((2 : Int) ^ min r8 8))))).drew = wc := ⟨_, rfl⟩
        have hCc : ChS w wc bc g0 k0 g1 k1 g2 k2 g3 k3 (setUsed Mb b8 (bits .xor .u8 v8 (IntKind.u8.wrap ((2 : Int) ^ min r8 8)))) := by rw [← hwc]; exact (HCb.out.used b8 Hul.out.1 _).step (below_drew (Below.refl _ _))
        have hkc : wc.heap[gk]? = some (.cells #[.int .u8 xo, .int .u16 xb, .int .u8 xi, .int .u16 xs] 86 (0, 0)) := by
          rw [← hwc, heap_drew]
          exact (Below.heap_setCell wb ⟨g2, b8, none⟩ (.int .u8 (bits .xor .u8 v8 (IntKind.u8.wrap ((2 : Int) ^ min r8 8)))) gk (HCb.out.all.used.ne_blk KB.out (by decide)).symm).trans KB.out
        have hMc := used_ok HMb.out b8 Hul.out.2 (bits .xor .u8 v8 (IntKind.u8.wrap ((2 : Int) ^ min r8 8))) (xor_byte _ _)
        obtain ⟨Mc, hMc0⟩ : ∃ m, setUsed Mb b8 (bits .xor .u8 v8 (IntKind.u8.wrap ((2 : Int) ^ min r8 8))) = m := ⟨_, rfl⟩
        rw [hMc0] at hCc hMc
        rw [hwc]
        have HCc := Lib.hid hCc
        have KC := Lib.hid hkc
        have HMc := Lib.hid hMc
        clear c1 f1 hHeld hwc hMc0 hCc hkc hMc HCb KB M2 O2 Hul HMb q2 q3 q4 q5 e8 hb8 hr8
        go_wp2_with fail
        have M3 : Hid (∀ w', Below wc.heap.size wc w' → w'.cell? ⟨bc, 3, none⟩ = some (.slice (some ⟨g3, 0, none⟩) 12 k3)) := Lib.hid (fun w' hS => blk_cell (blk_below HCc.out.met hS) 3)
        have Z2 : Hid (∀ w', Below wc.heap.size wc w' → w'.cell? ⟨gk, 2, none⟩ = some (.int .u8 xi)) := Lib.hid (fun w' hS => blk_cell (blk_below KC.out hS) 2)
        have Z3 : Hid (∀ w', Below wc.heap.size wc w' → w'.cell? ⟨gk, 3, none⟩ = some (.int .u16 xs)) := Lib.hid (fun w' hS => blk_cell (blk_below KC.out hS) 3)
        have Y1 : Hid (∀ w', Below wc.heap.size wc w' → w'.cell? ⟨w.heap.size, 1, none⟩ = some (.int .i64 12)) := Lib.hid (fun w' hS => blk_cell (blk_below HCc.out.geo hS) 1)
        obtain ⟨i12, hi12, hlt12⟩ : ∃ b : Nat, (wrap64 xi).tmod 12 = (b : Int) ∧ b < 12 := by
          have hx : 0 ≤ xi ∧ xi < 256 := Hok.out.2.2.1
          have e1 : wrap64 xi = xi := by unfold wrap64; omega
          refine ⟨(xi % 12).toNat, ?_, ?_⟩
          · rw [e1, Int.tmod_eq_emod_of_nonneg hx.1]; omega
          · omega
        obtain ⟨s, hs, hsb⟩ : ∃ s : Int, (wrap64 xs).tmod 3840 = s ∧ 0 ≤ s ∧ s < 3840 := by
          have hx : 0 ≤ xs ∧ xs < 65536 := Hok.out.2.2.2
          have e1 : wrap64 xs = xs := by unfold wrap64; omega
          refine ⟨xs % 3840, ?_, by omega, by omega⟩
          rw [e1, Int.tmod_eq_emod_of_nonneg hx.1]
        have q2 : 0 ≤ (i12 : Int) := by omega
        have q3 : (i12 : Int) < 12 := by omega
        have hil : i12 < Mc.ino.length := by rw [HMc.out.ilen]; exact hlt12
        obtain ⟨cells, hst, hrow⟩ := (HCc.out.all.ino.below (below_drew (Below.refl wc.heap.size wc))).set (n := 14) (fun _ => rfl) i12 hil (1, s) (ty := 83) sz_ino (by simp [inoC, Value.oneCell'])
        have Hst := Lib.hid hst
        have HCd := Lib.hid ((HCc.out.step (below_drew (Below.refl wc.heap.size wc))).ino cells i12 (1, s) hrow)
        have HMd := Lib.hid (ino_ok HMc.out i12 (1, s) (.inr ⟨rfl, hsb.1, hsb.2⟩))
        clear hst hrow hil hsb hlt12 HCc HMc
        refine start_ (n := 15) (S := (fun W => Below wc.heap.size wc W)) (ds := [14]) #[false, false, false, false, false, false, false, false, false, false, false, false, false, false, false] (by kernel_rfl) rfl rfl (below_drew (Below.refl _ _)) (fun hHeld => ?_)
        refine pure_ (i := 0) (N := some 82) (v := ?_) (a' := ?_) #[true, false, false, false, false, false, false, false, false, false, false, false, false, false, false] rfl rfl (by kernel_rfl) (fun _ _ _ h => h) (Or.inl ⟨by rfl, ?_⟩) ?_ ?_
        rotate_left
        · intro w'
          go_simp
          with_reducible rfl
        rotate_left
        · simp only [Act.put, List.setIfInBounds_toArray, List.set_cons_zero, List.set_cons_succ, i64_w, i32_w]
          rfl
        refine take_ (i := 1) (N := some 83) (v := ?_) (a' := ?_) #[true, true, false, false, false, false, false, false, false, false, false, false, false, false, false] rfl rfl (by kernel_rfl) (fun _ _ _ h => h) (Or.inl ⟨by rfl, ?_⟩) hHeld ?_ ?_
        rotate_left
        · rintro w' hS
          have y := M3.out w' hS
          go_simp
          with_reducible rfl
        rotate_left
        · simp only [Act.put, List.setIfInBounds_toArray, List.set_cons_zero, List.set_cons_succ, i64_w, i32_w]
          rfl
        refine pure_ (i := 2) (N := some 84) (v := ?_) (a' := ?_) #[true, true, true, false, false, false, false, false, false, false, false, false, false, false, false] rfl rfl (by kernel_rfl) (fun _ _ _ h => h) (Or.inl ⟨by rfl, ?_⟩) ?_ ?_
        rotate_left
        · intro w'
          go_simp
          with_reducible rfl
        rotate_left
        · simp only [Act.put, List.setIfInBounds_toArray, List.set_cons_zero, List.set_cons_succ, i64_w, i32_w]
          rfl
        refine take_ (i := 3) (N := some 85) (v := ?_) (a' := ?_) #[true, true, true, true, false, false, false, false, false, false, false, false, false, false, false] rfl rfl (by kernel_rfl) (fun _ _ _ h => h) (Or.inl ⟨by rfl, ?_⟩) hHeld ?_ ?_
        rotate_left
        · rintro w' hS
          have y := Z2.out w' hS
          go_simp
          with_reducible rfl
        rotate_left
        · simp only [Act.put, List.setIfInBounds_toArray, List.set_cons_zero, List.set_cons_succ, i64_w, i32_w]
          rfl
        refine pure_ (i := 4) (N := some 86) (v := ?_) (a' := ?_) #[true, true, true, true, true, false, false, false, false, false, false, false, false, false, false] rfl rfl (by kernel_rfl) (fun _ _ _ h => h) (Or.inl ⟨by rfl, ?_⟩) ?_ ?_
        rotate_left
        · intro w'
          go_simp
          with_reducible rfl
        rotate_left
        · simp only [Act.put, List.setIfInBounds_toArray, List.set_cons_zero, List.set_cons_succ, i64_w, i32_w]
          rfl
        refine pure_ (i := 5) (N := some 87) (v := ?_) (a' := ?_) #[true, true, true, true, true, true, false, false, false, false, false, false, false, false, false] rfl rfl (by kernel_rfl) (fun _ _ _ h => h) (Or.inl ⟨by rfl, ?_⟩) ?_ ?_
        rotate_left
        · intro w'
          go_simp
          with_reducible rfl
        rotate_left
        · simp only [Act.put, List.setIfInBounds_toArray, List.set_cons_zero, List.set_cons_succ, i64_w, i32_w]
          rfl
        refine take_ (i := 6) (N := some 88) (v := ?_) (a' := ?_) #[true, true, true, true, true, true, true, false, false, false, false, false, false, false, false] rfl rfl (by kernel_rfl) (fun _ _ _ h => h) (Or.inl ⟨by rfl, ?_⟩) hHeld ?_ ?_
        rotate_left
        · rintro w' hS
          have y := Y1.out w' hS
          go_simp
          with_reducible rfl
        rotate_left
        · simp only [Act.put, List.setIfInBounds_toArray, List.set_cons_zero, List.set_cons_succ, i64_w, i32_w]
          rfl
        refine pure_ (i := 7) (N := some 89) (v := ?_) (a' := ?_) #[true, true, true, true, true, true, true, true, false, false, false, false, false, false, false] rfl rfl (by kernel_rfl) (fun _ _ _ h => h) (Or.inl ⟨by rfl, ?_⟩) ?_ ?_
        rotate_left
        · intro w'
          go_simp
          with_reducible rfl
        rotate_left
        · simp only [Act.put, List.setIfInBounds_toArray, List.set_cons_zero, List.set_cons_succ, i64_w, i32_w]
          rfl
        refine pure_ (i := 8) (N := some 90) (v := ?_) (a' := ?_) #[true, true, true, true, true, true, true, true, true, false, false, false, false, false, false] rfl rfl (by kernel_rfl) (fun _ _ _ h => h) (Or.inl ⟨by rfl, ?_⟩) ?_ ?_
        rotate_left
        · intro w'
          go_simp
          with_reducible rfl
        rotate_left
        · simp only [Act.put, List.setIfInBounds_toArray, List.set_cons_zero, List.set_cons_succ, i64_w, i32_w]
          rfl
        refine take_ (i := 9) (N := some 91) (v := ?_) (a' := ?_) #[true, true, true, true, true, true, true, true, true, true, false, false, false, false, false] rfl rfl (by kernel_rfl) (fun _ _ _ h => h) (Or.inl ⟨by rfl, ?_⟩) hHeld ?_ ?_
        rotate_left
        · rintro w' hS
          have y := Z3.out w' hS
          go_simp
          with_reducible rfl
        rotate_left
        · simp only [Act.put, List.setIfInBounds_toArray, List.set_cons_zero, List.set_cons_succ, i64_w, i32_w]
          rfl
        refine pure_ (i := 10) (N := some 92) (v := ?_) (a' := ?_) #[true, true, true, true, true, true, true, true, true, true, true, false, false, false, false] rfl rfl (by kernel_rfl) (fun _ _ _ h => h) (Or.inl ⟨by rfl, ?_⟩) ?_ ?_
        rotate_left
        · intro w'
          go_simp
          with_reducible rfl
        rotate_left
        · simp only [Act.put, List.setIfInBounds_toArray, List.set_cons_zero, List.set_cons_succ, i64_w, i32_w]
          rfl
        refine pure_ (i := 11) (N := some 93) (v := ?_) (a' := ?_) #[true, true, true, true, true, true, true, true, true, true, true, true, false, false, false] rfl rfl (by kernel_rfl) (fun _ _ _ h => h) (Or.inl ⟨by rfl, ?_⟩) ?_ ?_
        rotate_left
        · intro w'
          go_simp
          with_reducible rfl
        rotate_left
        · simp only [Act.put, List.setIfInBounds_toArray, List.set_cons_zero, List.set_cons_succ, i64_w, i32_w]
          rfl
        refine pure_ (i := 12) (N := some 94) (v := .agg (inoC (1, s)).toArray) (a' := ?_) #[true, true, true, true, true, true, true, true, true, true, true, true, true, false, false] rfl rfl (by kernel_rfl) (fun _ _ _ h => h) (yields_build (by rfl) 83 #[(0, .const (.int .u8 1)), (3, .tmp 93)] rfl _ (inoC (1, s)).toArray (by simp only [List.map_toArray, List.map_cons, List.map_nil]; rfl) (by kernel_rfl)) ?_ ?_
        rotate_left
        · simp only [Act.put, List.setIfInBounds_toArray, List.set_cons_zero, List.set_cons_succ, i64_w, i32_w]
          rfl
        refine pure_ (i := 13) (N := some 95) (v := ?_) (a' := ?_) #[true, true, true, true, true, true, true, true, true, true, true, true, true, true, false] rfl rfl (by kernel_rfl) (fun _ _ _ h => h) (Or.inl ⟨by rfl, ?_⟩) ?_ ?_
        rotate_left
        · intro w'
          go_simp
          with_reducible rfl
        rotate_left
        · simp only [Act.put, List.setIfInBounds_toArray, List.set_cons_zero, List.set_cons_succ, i64_w, i32_w]
          rfl
        refine last_ (i := 14) (N := none) #[true, true, true, true, true, true, true, true, true, true, true, true, true, true, true] rfl rfl (by kernel_rfl) (by decide) (fun K hK => ?_)
        refine skip_ (by rfl) rfl (run_exec_store rfl rfl rfl Hst.out) ?_
        refine hK.out _ _ ?_
        clear hK K
        refine done_ (by kernel_rfl) ?_
        clear q2 q3 hi12 hs
        go_wp2_with fail
        go_roundg q
        case measure => omega
        case rel => exact ⟨k + 1, _, by omega, by go_num, HMd, HCd⟩
end Go.Proofs.Ytpbijdalfeaheaa.Tf

/- meta.Take. -/
namespace Go.Proofs.Ytpbijdalfeaheaa.Tf
open Go.RowKit Go.Proofs.YtpbijdalfeaheaaW.PrintWords Go.Proofs.YtpbijdalfeaheaaW.PrintLast Go.Proofs.YtpbijdalfeaheaaW.PrintMore
set_option linter.unusedVariables false
set_option linter.unusedSimpArgs false
theorem lay1 : ∀ l : List Int, (∀ x ∈ l, 0 ≤ x ∧ x < 256) → layL 1 l = l := by
  intro l
  induction l with
  | nil => intro _; rfl
  | cons x l ih =>
    intro h
    have hx := h x List.mem_cons_self
    rw [layL_cons, ih (fun y hy => h y (List.mem_cons_of_mem _ hy))]
    have : putL x 1 = [x] := by
      show [x / 256 ^ 0 % 256] = [x]
      rw [Int.pow_zero, Int.ediv_one, Int.emod_eq_of_lt hx.1 hx.2]
    rw [this]
    rfl
theorem SL_drop {w : World} {ad : Addr} {n m c : Nat} {rows : List Raw} (h : SL.C w (some ad) n rows) (hm : m < n) (hc : n ≤ c) : SL.C w (some (ad.add m)) (n - m) (rows.drop m) := by
  obtain ⟨h1, h2, h3⟩ := h
  refine ⟨by rw [List.length_drop, h1], by omega, fun _ => ?_⟩
  obtain ⟨ad', e, hc⟩ := h3 (by omega)
  injection e with e
  subst e
  refine ⟨_, rfl, fun j p hj => ?_⟩
  rw [List.getElem?_drop] at hj
  obtain ⟨cs, c1, c2, c3⟩ := hc (m + j) p hj
  refine ⟨cs, c1, c2, fun i u hu => ?_⟩
  have hs1 : SL.sz = 1 := rfl
  have := c3 i u hu
  rw [hs1] at this ⊢
  rw [Addr.add_add, show m + (j * 1 + i) = (m + j) * 1 + i by omega]
  exact this
theorem Says.drop {W : World} {ok : Nat → Prop} {rows : List Raw} {xs : List (Nat × List Int)} (h : Says W ok rows xs) (m : Nat) : Says W ok (rows.drop m) (xs.drop m) :=
  ⟨by rw [List.length_drop, List.length_drop, h.1], fun j r x hr hx => by rw [List.getElem?_drop] at hr hx; exact h.2 _ r x hr hx⟩
theorem metaB_len {M : Mt} (hM : MtOk M) : (metaB M).length = 9 := by
  unfold metaB
  rw [List.length_append, inosB_len 6 _ (by rw [hM.ilen]; exact Nat.le_refl _)]
  rfl
theorem ownB_len {M : Mt} (hM : MtOk M) : (ownB M).length = 64 := by unfold ownB; simp [hM.olen]
theorem ownB_byte {M : Mt} (hM : MtOk M) : ∀ x ∈ ownB M, 0 ≤ x ∧ x < 256 := by
  intro x hx
  unfold ownB at hx
  rcases List.mem_append.1 hx with h | h
  · have := hM.own x h; omega
  · rw [List.eq_of_mem_replicate h]; omega
theorem takeN (size n N : Nat) (A0 : Option Addr) (c0 : Nat) (l xs : List Int) (w : World) (hxs : layL size l = xs) (h1 : 1 ≤ size) (h8 : size ≤ 8) (hN : size * l.length = N) (hl : N ≤ 4096) (hr : Kd.C (Kd.int .u8) w A0 N xs) (hc0 : N ≤ c0) (hn : ∀ n ∈ l, 0 ≤ n ∧ n < 256 ^ size) :
    Calls Try.prog 36 #[.int .i64 size, .slice A0 N c0] w fun e w' => ∃ v, e = .returned (.tuple #[v, .int .i64 0]) ∧ Kd.R (Kd.int .u64) 23 w' w.heap.size (fun _ => True) v l ∧ Below w.heap.size w w' := by
  subst hxs
  exact take_any size N A0 c0 l w h1 h8 hN hl hr hc0 hn
theorem take1 (a : Addr) (c : Nat) (l : List Int) (w : World) (hl : l.length = 64) (hb : ∀ x ∈ l, 0 ≤ x ∧ x < 256) (hr : Kd.C (Kd.int .u8) w (some a) 64 l) (hc : 64 ≤ c) :
    Calls Try.prog 36 #[.int .i64 1, .slice (some a) 64 c] w fun e w' => ∃ v, e = .returned (.tuple #[v, .int .i64 0]) ∧ Kd.R (Kd.int .u64) 23 w' w.heap.size (fun _ => True) v l ∧ Below w.heap.size w w' :=
  takeN 1 64 64 (some a) c l l w (lay1 l hb) (by decide) (by decide) (by omega) (by decide) hr hc (fun n hn => by have := hb n hn; exact ⟨this.1, by simpa using this.2⟩)
def u64C (x : Int) : List Value := [.int .u64 x]
/-- The state of the loop over the owners. -/
structure TkS (w W : World) (bm g0 k0 g2 k2 g3 k3 : Nat) (M : Mt) (v1 : Value) (l : List Int) : Prop where
  box : Boxed w #[.slice none 0 0, .slice none 0 0, .slice none 0 0, .slice none 0 0] W
  met : W.heap[bm]? = some (.cells #[.slice (some ⟨g0, 0, none⟩) 16 k0, v1, .slice (some ⟨g2, 0, none⟩) 64 k2, .slice (some ⟨g3, 0, none⟩) 12 k3] 36 (0, 0))
  lo : w.heap.size + 1 < bm
  own : Kd.R (Kd.int .i64) 3 W w.heap.size (fun _ => True) v1 l
  rows : RowB W g0 122 rowC rows0
  used : RowB W g2 5 u8C M.used
  ino : RowB W g3 83 inoC M.ino
theorem RowB.ne_own {α β : Type} {d : Kd β} {enc : α → List Value} {g base : Nat} {e e' : TypeId} {W : World} {ok : Nat → Prop} {v : Value} {xs : List α} {ys : List β} (h : RowB W g e enc xs) (hR : d.R e' W base ok v ys) (he : e' ≠ e) : some g ≠ v.ownBlock := by
  obtain ⟨t, h⟩ := h
  exact Kd.R_ne hR h he
/-- The state between the append and the store. -/
structure TkM (w W : World) (bm g0 k0 g2 k2 g3 k3 : Nat) (M : Mt) (v1 : Value) : Prop where
  box : Boxed w #[.slice none 0 0, .slice none 0 0, .slice none 0 0, .slice none 0 0] W
  met : W.heap[bm]? = some (.cells #[.slice (some ⟨g0, 0, none⟩) 16 k0, v1, .slice (some ⟨g2, 0, none⟩) 64 k2, .slice (some ⟨g3, 0, none⟩) 12 k3] 36 (0, 0))
  lo : w.heap.size + 1 < bm
  rows : RowB W g0 122 rowC rows0
  used : RowB W g2 5 u8C M.used
  ino : RowB W g3 83 inoC M.ino
/-- One owner more is appended. -/
theorem TkS.append {w W w9 : World} {bm g0 k0 g2 k2 g3 k3 : Nat} {M : Mt} {v1 : Value} {l : List Int} (h : TkS w W bm g0 k0 g2 k2 g3 k3 M v1 l) (o : Obj) (hR : Kd.R (Kd.int .i64) 3 (W.alloc o) w.heap.size (fun _ => True) v1 l) (hg : (W.alloc o).grownBy w9 v1.ownBlock) : TkM w w9 bm g0 k0 g2 k2 g3 k3 M v1 := by
  have hb : Below W.heap.size W (W.alloc o) := below_alloc (Below.refl _ _) o
  have hs := h.box.below.size
  have mv : ∀ {g : Nat} {t : TypeId} {cs : Array Value}, W.heap[g]? = some (.cells cs t (0, 0)) → t ≠ 3 → w9.heap[g]? = some (.cells cs t (0, 0)) := fun {g t cs} hg0 ht => by
    have h1 := blk_below hg0 hb
    exact (hg.block g (blk_lt h1) (Kd.R_ne hR h1 (fun e => ht e.symm))).trans h1
  have mr : ∀ {α : Type} {enc : α → List Value} {xs : List α} {g : Nat} {t : TypeId}, RowB W g t enc xs → t ≠ 3 → RowB w9 g t enc xs := fun {α enc xs g t} hr ht => by
    obtain ⟨tl, h1⟩ := hr
    exact ⟨tl, mv h1 ht⟩
  exact ⟨⟨mv h.box.geo (by decide), mv h.box.met (by decide), pw_below_grown (below_step h.box.below hb) _ (by rw [World.size_alloc]; omega) hg (fun k hk => R_base' hR k hk)⟩, mv h.met (by decide), h.lo, mr h.rows (by decide), mr h.used (by decide), mr h.ino (by decide)⟩
theorem TkM.put {w W : World} {bm g0 k0 g2 k2 g3 k3 : Nat} {M : Mt} {v1 v9 : Value} {l : List Int} (h : TkM w W bm g0 k0 g2 k2 g3 k3 M v1) (hR : Kd.R (Kd.int .i64) 3 W w.heap.size (fun _ => True) v9 l) : TkS w (W.setCell ⟨bm, 1, none⟩ v9) bm g0 k0 g2 k2 g3 k3 M v9 l := by
  have hl := h.lo
  have e : ∀ k, k ≠ bm → (W.setCell ⟨bm, 1, none⟩ v9).heap[k]? = W.heap[k]? := fun k hk => Below.heap_setCell W ⟨bm, 1, none⟩ v9 k hk
  exact ⟨⟨(e _ (by omega)).trans h.box.geo, (e _ (by omega)).trans h.box.met, h.box.below.setCell (p := ⟨bm, 1, none⟩) (by show w.heap.size ≤ bm; omega) v9⟩, blk_put h.met 1 v9 rfl, hl, Kd.R_set hR h.met (fun q hq => by simp [Kd.int, Kd.scalar] at hq; subst hq; decide) 1 v9,
    h.rows.far (h.rows.ne_blk h.met (by decide)) 1 v9, h.used.far (h.used.ne_blk h.met (by decide)) 1 v9, h.ino.far (h.ino.ne_blk h.met (by decide)) 1 v9⟩
set_option maxHeartbeats 4000000 in
set_option maxRecDepth 100000 in
theorem metatake_any (M : Mt) (hM : MtOk M) (ok : Nat → Prop) (ga : Nat) (c0 : Nat) (rows : List Raw) (w : World) (hC : SL.C w (some ⟨ga, 0, none⟩) 9 rows) (hS : Says w ok rows (tagB (metaB M))) (hc : 9 ≤ c0) :
    Calls Try.prog 14 #[.agg geoC, .slice (some ⟨ga, 0, none⟩) 9 c0] w fun e w' => ∃ g0 k0 g1 k1 g2 k2 g3 k3, e = .returned (.tuple #[.agg (metaC ⟨g0, 0, none⟩ k0 ⟨g1, 0, none⟩ k1 ⟨g2, 0, none⟩ k2 ⟨g3, 0, none⟩ k3), .int .i64 0]) ∧ MetaB w' w.heap.size g0 k0 g1 k1 g2 k2 g3 k3 M ∧ Below w.heap.size w w' := by
  have HM := Lib.hid hM
  have HC := Lib.hid hC
  have HS := Lib.hid hS
  have HN := Lib.hid (metaB_len hM)
  have Hc := Lib.hid hc
  have hat : ∀ k (hk : k < 9), ∃ a c, w.cell? ⟨ga, k, none⟩ = some (.slice (some a) 64 c) ∧ 64 ≤ c ∧ Kd.F (Kd.int .u8) w ok (some a) 64 ((metaB M)[k]'(by rw [metaB_len hM]; exact hk)) ∧ ((metaB M)[k]'(by rw [metaB_len hM]; exact hk)).length = 64 := fun k hk => by have h := sl_at hC hS k (by rw [metaB_len hM]; exact hk); rwa [add_plain] at h
  obtain ⟨a0, j0, hc0, hj0, hF0, -⟩ := hat 0 (by decide)
  obtain ⟨a1, j1, hc1, hj1, hF1, -⟩ := hat 1 (by decide)
  obtain ⟨a2, j2, hc2, hj2, hF2, -⟩ := hat 2 (by decide)
  have X0 := Lib.hid (And.intro hc0 (And.intro hj0 (show Kd.F (Kd.int .u8) w ok (some a0) 64 (List.replicate 64 0) from hF0)))
  have X1 := Lib.hid (And.intro hc1 (And.intro hj1 (show Kd.F (Kd.int .u8) w ok (some a1) 64 (ownB M) from hF1)))
  have X2 := Lib.hid (And.intro hc2 (And.intro hj2 (show Kd.F (Kd.int .u8) w ok (some a2) 64 M.used from hF2)))
  have Hat : Hid (∀ k, k < 9 → ∃ a c, w.cell? ⟨ga, k, none⟩ = some (.slice (some a) 64 c)) := Lib.hid (fun k hk => by obtain ⟨a, c, h, _⟩ := hat k hk; exact ⟨a, c, h⟩)
  clear hM hC hS hc hat hc0 hj0 hF0 hc1 hj1 hF1 hc2 hj2 hF2
  unfold geoC
  go_enter Try.func14, Try.ntmps14
  go_wp2_with fail
  obtain ⟨w1, hw1⟩ : ∃ w1, (w.alloc (Obj.cells #[.int .i64 30, .int .i64 12, .int .i64 6, .int .i64 8] 25)).alloc (Obj.cells #[.slice none 0 0, .slice none 0 0, .slice none 0 0, .slice none 0 0] 36) = w1 := ⟨_, rfl⟩
  have hX1 : Boxed w #[.slice none 0 0, .slice none 0 0, .slice none 0 0, .slice none 0 0] w1 := by rw [← hw1]; exact Boxed.make w _
  rw [hw1]
  clear hw1
  have y0 : w1.cell? ⟨w.heap.size, 0, none⟩ = some (.int .i64 30) := blk_cell hX1.geo 0
  have y1 : w1.cell? ⟨w.heap.size, 1, none⟩ = some (.int .i64 12) := blk_cell hX1.geo 1
  have y2 : w1.cell? ⟨w.heap.size, 2, none⟩ = some (.int .i64 6) := blk_cell hX1.geo 2
  have y3 : w1.cell? ⟨w.heap.size, 3, none⟩ = some (.int .i64 8) := blk_cell hX1.geo 3
  refine (right_geo w1).mono ?_
  rintro e w2 ⟨rfl, hB2⟩
  clear y0 y1 y2 y3
  have hX2 := hX1.step hB2
  have y0 : w2.cell? ⟨w.heap.size, 0, none⟩ = some (.int .i64 30) := blk_cell hX2.geo 0
  have y1 : w2.cell? ⟨w.heap.size, 1, none⟩ = some (.int .i64 12) := blk_cell hX2.geo 1
  have y2 : w2.cell? ⟨w.heap.size, 2, none⟩ = some (.int .i64 6) := blk_cell hX2.geo 2
  have y3 : w2.cell? ⟨w.heap.size, 3, none⟩ = some (.int .i64 8) := blk_cell hX2.geo 3
  have HX2 := Lib.hid hX2
  clear hX1 hB2 hX2
  go_wp2_with fail
  refine (meta_geo w2).mono ?_
  rintro e w3 ⟨rfl, hB3⟩
  clear y0 y1 y2 y3
  have HX3 := Lib.hid (HX2.out.step hB3)
  clear HX2 hB3
  go_wp2_with fail
  go_loopg [7, 30] 9 (fun q _ i wr => ∃ k, k + q = 9 ∧ i = .int .i64 (k : Int) ∧ wr = w3)
  case atStart => exact ⟨0, rfl, rfl, rfl⟩
  case round =>
    obtain ⟨k, hq, rfl, rfl⟩ := hrel
    cases gk with
    | succ q =>
      have d1 : decide ((k : Int) < 9) = true := decide_eq_true (by omega)
      have q0 : 0 ≤ (k : Int) := by omega
      have q1 : (k : Int) < 9 := by omega
      obtain ⟨a, c, hcell⟩ := Hat.out k (by omega)
      replace hcell : wr.cell? ⟨ga, k, none⟩ = some (.slice (some a) 64 c) := by rw [HX3.out.below.cell (World.block_lt_of_cell? w _ hcell)]; exact hcell
      go_wp2_with fail
      go_roundg q
      case measure => omega
      case rel => exact ⟨k + 1, by omega, by go_num, rfl⟩
    | zero =>
      obtain rfl : k = 9 := by omega
      have z0 : wr.cell? ⟨ga, 0, none⟩ = some (.slice (some a0) 64 j0) := by rw [HX3.out.below.cell (World.block_lt_of_cell? w _ X0.out.1)]; exact X0.out.1
      go_wp2_with fail
      refine (interntake0 a0 j0 wr (Kd.C_below (Kd.F_now X0.out.2.2) HX3.out.below) X0.out.2.1).mono ?_
      rintro e w4 ⟨v8, rfl, hR8, hB4⟩
      obtain ⟨g0, k0, rfl, hk0, hg0, hb0⟩ := R_B (show Plain RK rowC from plain_flat 2 rowC _) (fun _ => rfl) (by decide) hR8 (by rw [rows0_len]; decide)
      rw [rows0_len] at hk0 ⊢
      have hX4 := HX3.out.step hB4
      have HK0 := Lib.hid (And.intro hk0 (Nat.le_trans HX3.out.below.size hg0))
      have HB0 := Lib.hid hb0
      have HX4 := Lib.hid hX4
      have n1 : ¬ c0 = 3 := by have := Hc.out; omega
      have n2 : (9 : Int) ≤ (c0 : Int) := by have := Hc.out; omega
      have n3 : (3 : Int) ≤ (c0 : Int) := by omega
      clear hR8 hk0 hg0 hb0 hB4 HX3 z0 hX4
      go_wp2_with fail
      refine (inodes_any M.ino HM.out.ilen HM.out.ino ok ⟨ga, 3, none⟩ (c0 - 3) (rows.drop 3) w4 (Kd.C_below (by have h := SL_drop HC.out (m := 3) (by decide) Hc.out; rwa [add_plain] at h) HX4.out.below) ((show Says w ok (rows.drop 3) (tagB (inosB 6 M.ino)) from HS.out.drop 3).below HX4.out.below)).mono ?_
      rintro e w5 ⟨v10, rfl, hR10, hB5⟩
      obtain ⟨g3, k3, rfl, hk3, hg3, hb3⟩ := R_B (show Plain IK inoC from plain_flat 14 inoC _) (fun _ => rfl) (by decide) hR10 (by rw [HM.out.ilen]; decide)
      rw [HM.out.ilen] at hk3 ⊢
      have HK3 := Lib.hid (And.intro hk3 (Nat.le_trans HX4.out.below.size hg3))
      have HB3 := Lib.hid hb3
      have HB0' := Lib.hid (HB0.out.below hB5)
      have HX5 := Lib.hid (HX4.out.step hB5)
      have z1 : w5.cell? ⟨ga, 1, none⟩ = some (.slice (some a1) 64 j1) := by rw [HX5.out.below.cell (World.block_lt_of_cell? w _ X1.out.1)]; exact X1.out.1
      clear hR10 hk3 hg3 hb3 HB0 hB5 HX4
      go_wp2_with fail
      refine (take1 a1 j1 (ownB M) w5 (ownB_len HM.out) (ownB_byte HM.out) (Kd.C_below (Kd.F_now X1.out.2.2) HX5.out.below) X1.out.2.1).mono ?_
      rintro e w6 ⟨v12, rfl, hR12, hB6⟩
      obtain ⟨g12, c12, rfl, -, -, hu12⟩ := R_B (plain_int .u64) (fun _ => rfl) (by decide) hR12 (by rw [ownB_len HM.out]; decide)
      rw [ownB_len HM.out]
      have HC12 := Lib.hid (show RowB w6 g12 23 u64C (ownB M) from hu12)
      have HB3' := Lib.hid (HB3.out.below hB6)
      have HB0 := Lib.hid (HB0'.out.below hB6)
      have HX6 := Lib.hid (HX5.out.step hB6)
      have z2 : w6.cell? ⟨ga, 2, none⟩ = some (.slice (some a2) 64 j2) := by rw [HX6.out.below.cell (World.block_lt_of_cell? w _ X2.out.1)]; exact X2.out.1
      clear hR12 hu12 HB3 HB0' hB6 HX5 z1
      go_wp2_with fail
      refine (clone_byteN (some a2) j2 64 M.used w6 HM.out.used.len (Kd.C_below (Kd.F_now X2.out.2.2) HX6.out.below) (by decide) (by decide)).mono ?_
      rintro e w7 ⟨v70, rfl, hR70, hB7⟩
      obtain ⟨g2, k2, rfl, hk2, hg2, hb2⟩ := R_B (plain_int .u8) (fun _ => rfl) (by decide) hR70 (by rw [HM.out.used.len]; decide)
      rw [HM.out.used.len] at hk2 ⊢
      have HK2 := Lib.hid (And.intro hk2 (Nat.le_trans HX6.out.below.size hg2))
      have HB2 := Lib.hid (show RowB w7 g2 5 u8C M.used from hb2)
      have HB0' := Lib.hid (HB0.out.below hB7)
      have HB3 := Lib.hid (HB3'.out.below hB7)
      have HC7 := Lib.hid (HC12.out.below hB7)
      have HX7 := Lib.hid (HX6.out.step hB7)
      clear hR70 hk2 hg2 hb2 HB0 HB3' hB7 HX6 z2 HC12
      go_wp2_with fail
      obtain ⟨w8, hw8⟩ : ∃ w8, w7.alloc (Obj.cells #[.slice (some ⟨g0, 0, none⟩) 16 k0, .slice none 0 0, .slice (some ⟨g2, 0, none⟩) 64 k2, .slice (some ⟨g3, 0, none⟩) 12 k3] 36) = w8 := ⟨_, rfl⟩
      have hB8 : Below w7.heap.size w7 w8 := by rw [← hw8]; exact below_alloc (Below.refl _ _) _
      have hm8 := blk_new w7 (Obj.cells #[.slice (some ⟨g0, 0, none⟩) 16 k0, .slice none 0 0, .slice (some ⟨g2, 0, none⟩) 64 k2, .slice (some ⟨g3, 0, none⟩) 12 k3] 36)
      rw [hw8] at hm8 ⊢
      clear hw8
      have T8 := Lib.hid (show TkS w w8 w7.heap.size g0 k0 g2 k2 g3 k3 M (.slice none 0 0) [] from ⟨HX7.out.step hB8, hm8, blk_lt HX7.out.met, Kd.R_nil _ _ _ _ _, HB0'.out.below hB8, HB2.out.below hB8, HB3.out.below hB8⟩)
      have HC8 := Lib.hid (HC7.out.below hB8)
      obtain ⟨bm, hbm⟩ : ∃ b, w7.heap.size = b := ⟨_, rfl⟩
      rw [hbm] at T8 ⊢
      clear hB8 hm8 HX7 HB0' HB2 HB3 HC7 hbm
      obtain ⟨ws, hws⟩ : ∃ ws : World, ws = wr := ⟨_, rfl⟩
      subst hws
      go_loopg [75] 64 (fun q i wr => ∃ k v1, k + q = 64 ∧ i = .int .i64 (k : Int) ∧ Hid (TkS w wr bm g0 k0 g2 k2 g3 k3 M v1 (M.own.take k)) ∧ Hid (RowB wr g12 23 u64C (ownB M)))
      case atStart => exact ⟨0, _, rfl, rfl, T8, HC8⟩
      case round =>
        clear T8 HC8
        obtain ⟨k, v1, hq, rfl, hT, hC⟩ := hrel
        cases gk with
        | zero =>
          obtain rfl : k = 64 := by omega
          have hl6 : M.own.take 64 = M.own := List.take_of_length_le (by rw [HM.out.olen]; decide)
          have hT0 := hT.out
          rw [hl6] at hT0
          obtain ⟨g1, k1, rfl, hk1, hg1, hb1⟩ := R_B (plain_int .i64) (fun _ => rfl) (by decide) hT0.own (by rw [HM.out.olen]; decide)
          rw [HM.out.olen] at hk1 hT0
          have hMB : MetaB wr w.heap.size g0 k0 g1 k1 g2 k2 g3 k3 M := ⟨⟨HK0.out.1, hk1, HK2.out.1, HK3.out.1⟩, ⟨HK0.out.2, hg1, HK2.out.2, HK3.out.2⟩, hT0.rows, hb1, hT0.used, hT0.ino⟩
          have HMB := Lib.hid hMB
          have hBx := hT0.box
          have y0 : wr.cell? ⟨w.heap.size, 0, none⟩ = some (.int .i64 30) := blk_cell hBx.geo 0
          have y1 : wr.cell? ⟨w.heap.size, 1, none⟩ = some (.int .i64 12) := blk_cell hBx.geo 1
          have y2 : wr.cell? ⟨w.heap.size, 2, none⟩ = some (.int .i64 6) := blk_cell hBx.geo 2
          have y3 : wr.cell? ⟨w.heap.size, 3, none⟩ = some (.int .i64 8) := blk_cell hBx.geo 3
          have m0 : wr.cell? ⟨bm, 0, none⟩ = some (.slice (some ⟨g0, 0, none⟩) 16 k0) := blk_cell hT0.met 0
          have m1 : wr.cell? ⟨bm, 1, none⟩ = some (.slice (some ⟨g1, 0, none⟩) 6 k1) := blk_cell hT0.met 1
          have m2 : wr.cell? ⟨bm, 2, none⟩ = some (.slice (some ⟨g2, 0, none⟩) 64 k2) := blk_cell hT0.met 2
          have m3 : wr.cell? ⟨bm, 3, none⟩ = some (.slice (some ⟨g3, 0, none⟩) 12 k3) := blk_cell hT0.met 3
          have HT0 := Lib.hid hT0
          clear hT hC hl6 hT0 hk1 hg1 hb1 hMB hBx
          go_wp2_with fail
          clear y0 y1 y2 y3 m0 m1 m2 m3
          refine (metaright_any _ _ k0 _ k1 _ k2 _ k3 M wr (HMB.out.F HM.out) HM.out).mono ?_
          rintro e w9 ⟨rfl, hB9⟩
          have hb9 := blk_below HT0.out.met hB9
          have m0 : w9.cell? ⟨bm, 0, none⟩ = some (.slice (some ⟨g0, 0, none⟩) 16 k0) := blk_cell hb9 0
          have m1 : w9.cell? ⟨bm, 1, none⟩ = some (.slice (some ⟨g1, 0, none⟩) 6 k1) := blk_cell hb9 1
          have m2 : w9.cell? ⟨bm, 2, none⟩ = some (.slice (some ⟨g2, 0, none⟩) 64 k2) := blk_cell hb9 2
          have m3 : w9.cell? ⟨bm, 3, none⟩ = some (.slice (some ⟨g3, 0, none⟩) 12 k3) := blk_cell hb9 3
          have hr9 := blk_below HT0.out.box.met hB9
          have r0 : w9.cell? ⟨w.heap.size + 1, 0, none⟩ = some (.slice none 0 0) := blk_cell hr9 0
          have r1 : w9.cell? ⟨w.heap.size + 1, 1, none⟩ = some (.slice none 0 0) := blk_cell hr9 1
          have r2 : w9.cell? ⟨w.heap.size + 1, 2, none⟩ = some (.slice none 0 0) := blk_cell hr9 2
          have r3 : w9.cell? ⟨w.heap.size + 1, 3, none⟩ = some (.slice none 0 0) := blk_cell hr9 3
          have f0 := blk_frozen hr9 0
          have f1 := blk_frozen hr9 1
          have f2 := blk_frozen hr9 2
          have f3 := blk_frozen hr9 3
          have Hr9 := Lib.hid hr9
          have HMB9 := Lib.hid (HMB.out.below hB9)
          have HB9 := Lib.hid (below_step HT0.out.box.below hB9)
          clear hb9 hr9 hB9 HMB HT0
          go_wp2_with fail
          clear m0 m1 m2 m3 r0 r1 r2 r3 f0 f1 f2 f3
          refine bodyPost_ret (results_cell_tmp rfl _ _ (w.heap.size + 1) 36 #[.slice (some ⟨g0, 0, none⟩) 16 k0, .slice (some ⟨g1, 0, none⟩) 6 k1, .slice (some ⟨g2, 0, none⟩) 64 k2, .slice (some ⟨g3, 0, none⟩) 12 k3] (0, 0) _ rfl ?_ Try.underlying36 rfl sz_meta) rfl ?_
          · exact blk_put (blk_put (blk_put (blk_put Hr9.out 0 _ rfl) 1 _ rfl) 2 _ rfl) 3 _ rfl
          · have d0 := HMB9.out.rows.ne_blk Hr9.out (by decide)
            have d1 := HMB9.out.own.ne_blk Hr9.out (by decide)
            have d2 := HMB9.out.used.ne_blk Hr9.out (by decide)
            have d3 := HMB9.out.ino.ne_blk Hr9.out (by decide)
            refine ⟨g0, k0, g1, k1, g2, k2, g3, k3, rfl, ⟨HMB9.out.cap, HMB9.out.lo, (((HMB9.out.rows.far d0 _ _).far d0 _ _).far d0 _ _).far d0 _ _, (((HMB9.out.own.far d1 _ _).far d1 _ _).far d1 _ _).far d1 _ _, (((HMB9.out.used.far d2 _ _).far d2 _ _).far d2 _ _).far d2 _ _, (((HMB9.out.ino.far d3 _ _).far d3 _ _).far d3 _ _).far d3 _ _⟩, ?_⟩
            exact ((((HB9.out).setCell (p := ⟨w.heap.size + 1, 0, none⟩) (by show w.heap.size ≤ w.heap.size + 1; omega) _).setCell (p := ⟨w.heap.size + 1, 1, none⟩) (by show w.heap.size ≤ w.heap.size + 1; omega) _).setCell (p := ⟨w.heap.size + 1, 2, none⟩) (by show w.heap.size ≤ w.heap.size + 1; omega) _).setCell (p := ⟨w.heap.size + 1, 3, none⟩) (by show w.heap.size ≤ w.heap.size + 1; omega) _
        | succ q =>
          have d1 : decide ((k : Int) < 64) = true := decide_eq_true (by omega)
          have q0 : 0 ≤ (k : Int) := by omega
          have q1 : (k : Int) < 64 := by omega
          have hkl : k < (ownB M).length := by rw [ownB_len HM.out]; omega
          have hu := hC.out.cell (n := 1) (fun _ => rfl) k 0 hkl (by decide)
          obtain ⟨x, hx⟩ : ∃ x, (ownB M)[k] = x := ⟨_, rfl⟩
          have hxb := ownB_byte HM.out x (by rw [← hx]; exact List.getElem_mem hkl)
          rw [hx] at hu
          replace hu : wr.cell? ⟨g12, k, none⟩ = some (.int .u64 x) := by simpa [u64C] using hu
          have y2 : wr.cell? ⟨w.heap.size, 2, none⟩ = some (.int .i64 6) := blk_cell hT.out.box.geo 2
          by_cases hk6 : k < 6
          · have d2 : decide ((k : Int) < 6) = true := decide_eq_true (by omega)
            have m1 : wr.cell? ⟨bm, 1, none⟩ = some v1 := blk_cell hT.out.met 1
            have hkl6 : k < M.own.length := by rw [HM.out.olen]; exact hk6
            have hx' : (ownB M)[k]? = some x := by rw [List.getElem?_eq_getElem hkl, hx]
            unfold ownB at hx'
            rw [List.getElem?_append_left hkl6, List.getElem?_eq_getElem hkl6] at hx'
            have hxo : M.own[k] = x := Option.some.inj hx'
            have s1 : wrap64 x = x := by unfold wrap64; omega
            have s2 : IntKind.i64.wrap x = x := by rw [i64_w]; exact s1
            have hsz := hT.out.box.below.size
            have hR1 := Kd.R_below hT.out.own (below_alloc (Below.refl _ _) (.cells #[.int .i64 x] 3))
            obtain ⟨v9, w9, hap, hR9, hg9⟩ := (plain_int .i64).append (wr.alloc (.cells #[.int .i64 x] 3)) w.heap.size 32 32 3 (.int .i64 0) 8 Try.underlying32 info_int rfl (by decide) v1 (M.own.take k) [x] hR1 (some ⟨wr.heap.size, 0, none⟩) 1 1 (by decide) (C_of_blk (k := .i64) (xs := [x]) (blk_new wr _) (by simp)) (by rw [List.length_take]; omega) (by rw [List.length_take]; unfold maxLen; omega) (by rw [World.size_alloc]; omega)
            rw [show M.own.take k ++ [x] = M.own.take (k + 1) by rw [List.take_succ_eq_append_getElem hkl6, hxo]] at hR9
            obtain ⟨A9, c9, e9⟩ := Kd.R_slice hR9
            obtain ⟨n9, hn9⟩ : ∃ n, (M.own.take (k + 1)).length = n := ⟨_, rfl⟩
            rw [hn9] at e9
            subst e9
            have T9 := hT.out.append (.cells #[.int .i64 x] 3) hR1 hg9
            have hc9 := (hC.out.below (below_alloc (Below.refl _ _) (.cells #[.int .i64 x] 3))).step (hg9.block g12 (hC.out.below (below_alloc (Below.refl _ _) (.cells #[.int .i64 x] 3))).lt (RowB.ne_own (hC.out.below (below_alloc (Below.refl _ _) (.cells #[.int .i64 x] 3))) hR1 (by decide)))
            have m9 : w9.cell? ⟨bm, 1, none⟩ = some v1 := blk_cell T9.met 1
            have f9 := blk_frozen T9.met 1
            have Hap := Lib.hid hap
            have HT9 := Lib.hid T9
            have HC9 := Lib.hid hc9
            have HR9 := Lib.hid hR9
            clear hT hC hkl hx hx' hxb hkl6 hxo hsz hn9 hR1 hap hR9 hg9 T9 hc9
            go_wp2_with (first | ((with_reducible refine gate_builtin (b := .append) (xs := #[.tmp 86, .tmp 89]) rfl ?_); at_builtin; refine wpList_append_eq rfl (.tmp 86) (.tmp 89) 32 rfl _ _ _ rfl rfl Hap.out ?_))
            go_roundg q
            case measure => omega
            case rel => exact ⟨k + 1, _, by omega, by go_num, Lib.hid (HT9.out.put HR9.out), Lib.hid (HC9.out.far (HC9.out.ne_blk HT9.out.met (by decide)) _ _)⟩
          · have d2 : decide ((k : Int) < 6) = false := decide_eq_false (by omega)
            have hx' : (ownB M)[k]? = some x := by rw [List.getElem?_eq_getElem hkl, hx]
            unfold ownB at hx'
            rw [List.getElem?_append_right (by rw [HM.out.olen]; omega), List.getElem?_replicate, if_pos (by rw [HM.out.olen]; omega)] at hx'
            have hx0 : x = 0 := (Option.some.inj hx').symm
            subst hx0
            have T9 : TkS w wr bm g0 k0 g2 k2 g3 k3 M v1 (M.own.take (k + 1)) := by
              have := hT.out
              rw [List.take_of_length_le (by rw [HM.out.olen]; omega)] at this ⊢
              exact this
            have HT9 := Lib.hid T9
            clear hT hkl hx hx' hxb T9
            go_wp2_with fail
            go_roundg q
            case measure => omega
            case rel => exact ⟨k + 1, v1, by omega, by go_num, HT9, hC⟩
end Go.Proofs.Ytpbijdalfeaheaa.Tf
