/- Walks and plain laws on which the claim stands, several texts joined. -/
import Derived.Test.YtpbijdalfeaheaaM11
import Derived.Test.YtpbijdalfeaheaaM12
import Derived.Test.YtpbijdalfeaheaaM13
import Derived.Deep.Slices
import Derived.ChangeArms
import Derived.OpenShut
import Derived.ChangeSame
import Derived.Lib.SmallJoins

/- journal.Open behind a crash; what TopKnown holds in memory. -/
namespace Go.Proofs.Ytpbijdalfeaheaa.Tf
open Go.RowKit Go.Proofs.YtpbijdalfeaheaaW.PrintWords Go.Proofs.YtpbijdalfeaheaaW.PrintLast Go.Proofs.YtpbijdalfeaheaaW.PrintMore
set_option linter.unusedVariables false
set_option linter.unusedSimpArgs false
theorem inosB_64 : ∀ (n : Nat) (l : List (Int × Int)), ∀ v ∈ inosB n l, v.length = 64 := by
  intro n
  induction n with
  | zero => intro l v hv; simp [inosB] at hv
  | succ n ih =>
    intro l v hv
    match l, hv with
    | [], hv => simp [inosB] at hv
    | [x], hv => simp [inosB] at hv
    | x :: y :: l, hv =>
      rw [inosB] at hv
      rcases List.mem_cons.1 hv with rfl | hv
      · rw [List.length_append, inoB_len, inoB_len]
      · exact ih l v hv
theorem metaB_64 {M : Mt} (hM : MtOk M) : ∀ v ∈ metaB M, v.length = 64 := by
  intro v hv
  unfold metaB at hv
  rcases List.mem_append.1 hv with hv | hv
  · simp only [List.mem_cons, List.not_mem_nil, or_false] at hv
    rcases hv with rfl | rfl | rfl
    · simp
    · exact ownB_len hM
    · exact hM.used.len
  · exact inosB_64 _ _ v hv
/-- What Open leaves behind a crash. -/
def AfterPost (w : World) (gd gs : Nat) (b : Bool) (X1 X2 : Mt) (e : Ending) (w' : World) : Prop :=
  ∃ (gj : Nat) (c : Int) (B' : Nat) (D' : Dk) (X : Mt), e = .returned (.tuple #[.pointer (some ⟨gj, 0, none⟩), .int .i64 c, .int .i64 0]) ∧ DiskAt w' B' gd gs D' ∧ D'.dead = false ∧ (X = X2 ∨ (b = false ∧ X = X1)) ∧ (∀ j, j < 9 → D'.secs.getD (31 + j) [] = (metaB X).getD j []) ∧ Fr (fun k => k = gd ∨ k = gs) w w'
theorem open_after (B gd gs : Nat) (D : Dk) (b : Bool) (S0 : List (List Int)) (X1 X2 : Mt) (w : World) (hD : DiskAt w B gd gs D) (hd : D.dead = false) (hf : D.fuse = -1) (hw : D.waits = []) (hB : B ≤ w.heap.size) (h2 : MtOk X2)
    (hl : Left b S0 1 (metaB X2) D.secs) (h0 : S0.getD 1 [] = headB 1 0) (h1 : ∀ j, j < 9 → S0.getD (31 + j) [] = (metaB X1).getD j []) :
    Calls Try.prog 6 #[.pointer (some ⟨gd, 0, none⟩), .int .i64 1, .int .i64 30] w (AfterPost w gd gs b X1 X2) := by
  have hv := metaB_len h2
  have gD : ∀ j (hj : j < (metaB X2).length), (metaB X2)[j] = (metaB X2).getD j [] := fun j hj => by rw [List.getD_eq_getElem?_getD, List.getElem?_eq_getElem hj]; rfl
  rcases hl with ⟨hb, ho1, ho2⟩ | ⟨hb, ha⟩ | ⟨hn1, hn2⟩
  · refine (open_plain B gd gs D (headB 1 0) 1 w hD hd hw hB (by rw [ho1, h0]) (headB_len _ _) (begins_head gd 1 (by decide))).mono ?_
    rintro e w' ⟨gj, rfl, hj, hJ, hB'⟩
    exact ⟨gj, 0, B, D, X1, rfl, hD.below hB', hd, .inr ⟨hb, rfl⟩, fun j hj => by rw [ho2 j hj, h1 j hj], Fr.of_below hB' _⟩
  · have hx := pat_nine hv (metaB_64 h2)
    have hpn : (pat 31 (metaB X2)).length = 9 := by rw [pat_len]; exact hv
    refine (open_redo B gd gs D (pat 31 (metaB X2)) (1 + 1) w hD hd hf hw hB ha.head (by decide) hx hpn ha.list ha.all).mono ?_
    rintro e w' ⟨gj, B', rfl, hB1, hB2, hD', hF⟩
    refine ⟨gj, 9, B', _, X2, rfl, hD', rfl, .inl rfl, fun j hj => ?_, hF⟩
    show (setAll (setAll D.secs (pat 31 (metaB X2))) [(1, headB (1 + 1) 0)]).getD (31 + j) [] = _
    rw [setAll_out _ _ _ (fun x hx => by rw [List.mem_singleton.1 hx]; show 1 ≠ 31 + j; omega), pat_in _ 31 D.secs (by rw [hD.num, hv]; decide) j (by omega), gD]
  · refine (open_plain B gd gs D (headB (1 + 1) 0) (1 + 1) w hD hd hw hB hn1 (headB_len _ _) (begins_head gd (1 + 1) (by decide))).mono ?_
    rintro e w' ⟨gj, rfl, hj, hJ, hB'⟩
    exact ⟨gj, 0, B, D, X2, rfl, hD.below hB', hd, .inl rfl, fun j hj => by rw [hn2 j (by omega), gD], Fr.of_below hB' _⟩
/-- What is held in memory from the two changes on. -/
structure K2 (n gl bf bs a0 p0 a1 p1 a2 p2 a3 p3 : Nat) (X1 : Mt) (b0 q0 b1 q1 b2 q2 b3 q3 : Nat) (X2 : Mt) (gd gs gj T : Nat) (W : World) : Prop where
  geo : W.heap[n]? = some (.cells #[.int .i64 30, .int .i64 12, .int .i64 6, .int .i64 8] 25 (0, 0))
  lay : W.heap[gl]? = some (.cells layC 28 (0, 0))
  first : W.heap[bf]? = some (.cells #[.slice (some ⟨a0, 0, none⟩) 16 p0, .slice (some ⟨a1, 0, none⟩) 6 p1, .slice (some ⟨a2, 0, none⟩) 64 p2, .slice (some ⟨a3, 0, none⟩) 12 p3] 36 (0, 0))
  second : W.heap[bs]? = some (.cells #[.slice (some ⟨b0, 0, none⟩) 16 q0, .slice (some ⟨b1, 0, none⟩) 6 q1, .slice (some ⟨b2, 0, none⟩) 64 q2, .slice (some ⟨b3, 0, none⟩) 12 q3] 36 (0, 0))
  one : MetaB W 0 a0 p0 a1 p1 a2 p2 a3 p3 X1
  two : MetaB W 0 b0 q0 b1 q1 b2 q2 b3 q3 X2
  lt : ∀ k ∈ [n, gl, bf, bs, a0, a1, a2, a3, b0, b1, b2, b3], k < T
  ne : ∀ k ∈ [n, gl, bf, bs, a0, a1, a2, a3, b0, b1, b2, b3], k ≠ gd ∧ k ≠ gs ∧ k ≠ gj
section
variable {n gl bf bs a0 p0 a1 p1 a2 p2 a3 p3 : Nat} {X1 : Mt} {b0 q0 b1 q1 b2 q2 b3 q3 : Nat} {X2 : Mt} {gd gs gj T : Nat} {W W1 : World}
theorem K2.step (h : K2 n gl bf bs a0 p0 a1 p1 a2 p2 a3 p3 X1 b0 q0 b1 q1 b2 q2 b3 q3 X2 gd gs gj T W) (hm : ∀ k ∈ [n, gl, bf, bs, a0, a1, a2, a3, b0, b1, b2, b3], W1.heap[k]? = W.heap[k]?) : K2 n gl bf bs a0 p0 a1 p1 a2 p2 a3 p3 X1 b0 q0 b1 q1 b2 q2 b3 q3 X2 gd gs gj T W1 := by
  have m : ∀ k, k ∈ [n, gl, bf, bs, a0, a1, a2, a3, b0, b1, b2, b3] → W1.heap[k]? = W.heap[k]? := hm
  exact ⟨(m n (by simp)).trans h.geo, (m gl (by simp)).trans h.lay, (m bf (by simp)).trans h.first, (m bs (by simp)).trans h.second,
    ⟨h.one.cap, h.one.lo, h.one.rows.step (m a0 (by simp)), h.one.own.step (m a1 (by simp)), h.one.used.step (m a2 (by simp)), h.one.ino.step (m a3 (by simp))⟩,
    ⟨h.two.cap, h.two.lo, h.two.rows.step (m b0 (by simp)), h.two.own.step (m b1 (by simp)), h.two.used.step (m b2 (by simp)), h.two.ino.step (m b3 (by simp))⟩, h.lt, h.ne⟩
theorem K2.fr {S : Nat → Prop} (h : K2 n gl bf bs a0 p0 a1 p1 a2 p2 a3 p3 X1 b0 q0 b1 q1 b2 q2 b3 q3 X2 gd gs gj T W) (hF : Fr S W W1) (hT : T ≤ W.heap.size) (hS : ∀ k, S k → k = gd ∨ k = gs ∨ k = gj ∨ T ≤ k) : K2 n gl bf bs a0 p0 a1 p1 a2 p2 a3 p3 X1 b0 q0 b1 q1 b2 q2 b3 q3 X2 gd gs gj T W1 :=
  h.step (fun k hk => hF.block k (Nat.lt_of_lt_of_le (h.lt k hk) hT) (fun hs => by
    obtain ⟨h1, h2, h3⟩ := h.ne k hk
    have := h.lt k hk
    rcases hS k hs with h | h | h | h
    · exact h1 h
    · exact h2 h
    · exact h3 h
    · omega))
theorem K2.below (h : K2 n gl bf bs a0 p0 a1 p1 a2 p2 a3 p3 X1 b0 q0 b1 q1 b2 q2 b3 q3 X2 gd gs gj T W) (hT : T ≤ W.heap.size) (hb : Below W.heap.size W W1) : K2 n gl bf bs a0 p0 a1 p1 a2 p2 a3 p3 X1 b0 q0 b1 q1 b2 q2 b3 q3 X2 gd gs gj T W1 :=
  h.step (fun k hk => hb.block k (Nat.lt_of_lt_of_le (h.lt k hk) hT))
theorem K2.make {B : Nat} {D : Dk} {seq : Int} (hg : W.heap[n]? = some (.cells #[.int .i64 30, .int .i64 12, .int .i64 6, .int .i64 8] 25 (0, 0))) (hl : W.heap[gl]? = some (.cells layC 28 (0, 0)))
    (h1 : W.heap[bf]? = some (.cells #[.slice (some ⟨a0, 0, none⟩) 16 p0, .slice (some ⟨a1, 0, none⟩) 6 p1, .slice (some ⟨a2, 0, none⟩) 64 p2, .slice (some ⟨a3, 0, none⟩) 12 p3] 36 (0, 0))) (h2 : W.heap[bs]? = some (.cells #[.slice (some ⟨b0, 0, none⟩) 16 q0, .slice (some ⟨b1, 0, none⟩) 6 q1, .slice (some ⟨b2, 0, none⟩) 64 q2, .slice (some ⟨b3, 0, none⟩) 12 q3] 36 (0, 0)))
    (o1 : MetaB W 0 a0 p0 a1 p1 a2 p2 a3 p3 X1) (o2 : MetaB W 0 b0 q0 b1 q1 b2 q2 b3 q3 X2) (hD : DiskAt W B gd gs D) (hJ : JAt W gj gd seq) : K2 n gl bf bs a0 p0 a1 p1 a2 p2 a3 p3 X1 b0 q0 b1 q1 b2 q2 b3 q3 X2 gd gs gj W.heap.size W := by
  have ty : ∀ k ∈ [n, gl, bf, bs, a0, a1, a2, a3, b0, b1, b2, b3], ∃ cs t, W.heap[k]? = some (.cells cs t (0, 0)) ∧ t ≠ 92 ∧ t ≠ 95 ∧ t ≠ 69 := by
    intro k hk
    simp only [List.mem_cons, List.not_mem_nil, or_false] at hk
    rcases hk with rfl | rfl | rfl | rfl | rfl | rfl | rfl | rfl | rfl | rfl | rfl | rfl
    · exact ⟨_, _, hg, by decide, by decide, by decide⟩
    · exact ⟨_, _, hl, by decide, by decide, by decide⟩
    · exact ⟨_, _, h1, by decide, by decide, by decide⟩
    · exact ⟨_, _, h2, by decide, by decide, by decide⟩
    · obtain ⟨t, h⟩ := o1.rows; exact ⟨_, _, h, by decide, by decide, by decide⟩
    · obtain ⟨t, h⟩ := o1.own; exact ⟨_, _, h, by decide, by decide, by decide⟩
    · obtain ⟨t, h⟩ := o1.used; exact ⟨_, _, h, by decide, by decide, by decide⟩
    · obtain ⟨t, h⟩ := o1.ino; exact ⟨_, _, h, by decide, by decide, by decide⟩
    · obtain ⟨t, h⟩ := o2.rows; exact ⟨_, _, h, by decide, by decide, by decide⟩
    · obtain ⟨t, h⟩ := o2.own; exact ⟨_, _, h, by decide, by decide, by decide⟩
    · obtain ⟨t, h⟩ := o2.used; exact ⟨_, _, h, by decide, by decide, by decide⟩
    · obtain ⟨t, h⟩ := o2.ino; exact ⟨_, _, h, by decide, by decide, by decide⟩
  have nb : ∀ {k g : Nat} {cs cs' : Array Value} {t t' : TypeId}, W.heap[k]? = some (.cells cs t (0, 0)) → W.heap[g]? = some (.cells cs' t' (0, 0)) → t ≠ t' → k ≠ g := by
    rintro k g cs cs' t t' h h' ht rfl
    rw [h] at h'
    injection h' with h'
    injection h' with _ h'
    exact ht h'
  obtain ⟨vw, done, hd, _⟩ := hD.hd
  refine ⟨hg, hl, h1, h2, o1, o2, fun k hk => ?_, fun k hk => ?_⟩
  · obtain ⟨cs, t, h, _⟩ := ty k hk
    exact blk_lt h
  · obtain ⟨cs, t, h, t1, t2, t3⟩ := ty k hk
    exact ⟨nb h hd t1, nb h hD.hs t2, nb h hJ t3⟩
end
end Go.Proofs.Ytpbijdalfeaheaa.Tf

/- The walk of TopKnown. -/
namespace Go.Proofs.Ytpbijdalfeaheaa.Tf
open Go.RowKit Go.Proofs.YtpbijdalfeaheaaW.PrintWords Go.Proofs.YtpbijdalfeaheaaW.PrintLast Go.Proofs.YtpbijdalfeaheaaW.PrintMore
set_option linter.unusedVariables false
set_option linter.unusedSimpArgs false
theorem DiskAt.inn {W : World} {B gd gs : Nat} {D : Dk} (h : DiskAt W B gd gs D) : gd < W.heap.size ∧ gs < W.heap.size := by
  obtain ⟨vw, done, hd, _⟩ := h.hd
  exact ⟨blk_lt hd, blk_lt h.hs⟩
theorem changeN (ok : Nat → Prop) (A0 : Addr) (c0 : Nat) (A1 : Addr) (c1 : Nat) (A2 : Addr) (c2 : Nat) (A3 : Addr) (c3 : Nat) (M : Mt) (A : Option Addr) (c m : Nat) (l : List Kn) (w : World) (hm : l.length = m) (h : MetaF w ok A0 c0 A1 c1 A2 c2 A3 c3 M) (hM : MtOk M) (hl : KNK.C w A m l) (hk : ∀ x ∈ l, KnOk x) :
    Calls Try.prog 9 #[.agg geoC, .agg (metaC A0 c0 A1 c1 A2 c2 A3 c3), .slice A m c] w fun e w' => ∃ g0 k0 g1 k1 g2 k2 g3 k3 M', e = .returned (.tuple #[.agg (metaC ⟨g0, 0, none⟩ k0 ⟨g1, 0, none⟩ k1 ⟨g2, 0, none⟩ k2 ⟨g3, 0, none⟩ k3), .bool true]) ∧ MtOk M' ∧ MetaB w' w.heap.size g0 k0 g1 k1 g2 k2 g3 k3 M' ∧ Below w.heap.size w w' := by
  subst hm
  exact change_any ok A0 c0 A1 c1 A2 c2 A3 c3 M A c l w h hM hl hk
set_option maxHeartbeats 16000000 in
set_option maxRecDepth 100000 in
theorem topknown_any (A1 : Option Addr) (e1 : Nat) (l : List Kn) (A2 : Option Addr) (e2 : Nat) (more : List Kn) (cut there : Int) (w : World) (hC1 : KNK.C w A1 l.length l) (hk1 : ∀ x ∈ l, KnOk x) (hC2 : KNK.C w A2 more.length more) (hk2 : ∀ x ∈ more, KnOk x) (hcut : cut ≤ 9223372036854775807) :
    Calls Try.prog 3 #[.slice A1 l.length e1, .slice A2 more.length e2, .int .i64 cut, .int .u64 there] w fun e w' => e = .returned (.bool true) ∧ Below w.heap.size w w' := by
  have HC1 := Lib.hid hC1
  have HC2 := Lib.hid hC2
  have HK1 := Lib.hid hk1
  have HK2 := Lib.hid hk2
  have Hcut := Lib.hid hcut
  clear hC1 hk1 hC2 hk2 hcut
  obtain ⟨N1, hN1⟩ : ∃ N, l.length = N := ⟨_, rfl⟩
  obtain ⟨N2, hN2⟩ : ∃ N, more.length = N := ⟨_, rfl⟩
  have HN1 := Lib.hid hN1
  have HN2 := Lib.hid hN2
  rw [hN1] at HC1 ⊢
  rw [hN2] at HC2 ⊢
  clear hN1 hN2
  go_enter Try.func3, Try.ntmps3
  go_wp2_with fail
  obtain ⟨w1, hw1⟩ : ∃ w1, w.alloc (Obj.cells #[.int .i64 30, .int .i64 12, .int .i64 6, .int .i64 8] 25) = w1 := ⟨_, rfl⟩
  obtain ⟨n, hn⟩ : ∃ n, w.heap.size = n := ⟨_, rfl⟩
  have hB1 : Below w.heap.size w w1 := by rw [← hw1]; exact below_alloc (Below.refl _ _) _
  have hg1 : w1.heap[n]? = some (.cells #[.int .i64 30, .int .i64 12, .int .i64 6, .int .i64 8] 25 (0, 0)) := by rw [← hw1, ← hn]; exact blk_new _ _
  rw [hw1, hn]
  have HW := Lib.hid hn
  clear hw1
  refine (empty_geo w1).mono ?_
  rintro e w2 ⟨gd, gs, rfl, ⟨B, hBl, hD2⟩, hgd, hgs, hB2⟩
  have hg2 := blk_below hg1 hB2
  have HB2 := Lib.hid (below_step hB1 hB2)
  have hgn : n < w1.heap.size := blk_lt hg1
  have D2 := Lib.hid hD2
  have HBl := Lib.hid hBl
  have Hgd := Lib.hid (And.intro hgd (And.intro hgs hgn))
  clear hB1 hg1 hB2 hD2 hBl hgd hgs hgn
  unfold layC
  have y0 : (w2.alloc (Obj.cells #[.int .i64 1, .int .i64 31, .int .i64 32, .int .i64 33, .int .i64 34, .int .i64 40, .int .i64 88] 28)).cell? ⟨n, 0, none⟩ = some (.int .i64 30) := blk_cell (blk_alloc hg2 _) 0
  have y1 : (w2.alloc (Obj.cells #[.int .i64 1, .int .i64 31, .int .i64 32, .int .i64 33, .int .i64 34, .int .i64 40, .int .i64 88] 28)).cell? ⟨n, 1, none⟩ = some (.int .i64 12) := blk_cell (blk_alloc hg2 _) 1
  have y2 : (w2.alloc (Obj.cells #[.int .i64 1, .int .i64 31, .int .i64 32, .int .i64 33, .int .i64 34, .int .i64 40, .int .i64 88] 28)).cell? ⟨n, 2, none⟩ = some (.int .i64 6) := blk_cell (blk_alloc hg2 _) 2
  have y3 : (w2.alloc (Obj.cells #[.int .i64 1, .int .i64 31, .int .i64 32, .int .i64 33, .int .i64 34, .int .i64 40, .int .i64 88] 28)).cell? ⟨n, 3, none⟩ = some (.int .i64 8) := blk_cell (blk_alloc hg2 _) 3
  have G2 := Lib.hid hg2
  clear hg2
  go_wp2_with fail
  clear y0 y1 y2 y3
  obtain ⟨w3, hw3⟩ : ∃ w3, w2.alloc (Obj.cells #[.int .i64 1, .int .i64 31, .int .i64 32, .int .i64 33, .int .i64 34, .int .i64 40, .int .i64 88] 28) = w3 := ⟨_, rfl⟩
  obtain ⟨gl, hgl⟩ : ∃ g, w2.heap.size = g := ⟨_, rfl⟩
  have hB3 : Below w2.heap.size w2 w3 := by rw [← hw3]; exact below_alloc (Below.refl _ _) _
  have hl3 : w3.heap[gl]? = some (.cells layC 28 (0, 0)) := by rw [← hw3, ← hgl]; exact blk_new _ _
  rw [hw3, hgl]
  clear hw3 hgl
  have D3 := Lib.hid (D2.out.below hB3)
  have HBl3 := Lib.hid (Nat.le_trans HBl.out hB3.size)
  have HB3 := Lib.hid (below_step HB2.out hB3)
  have G3 := Lib.hid (blk_below G2.out hB3)
  clear D2 HB2 G2 hB3 HBl
  refine (metanew_any w3).mono ?_
  rintro e w4 ⟨m0, r0, m1, r1, m2, r2, m3, r3, rfl, hm4, hB4⟩
  unfold metaC
  have hB5 : Below w3.heap.size w3 (w4.alloc (Obj.cells #[.slice (some ⟨m0, 0, none⟩) 16 r0, .slice (some ⟨m1, 0, none⟩) 6 r1, .slice (some ⟨m2, 0, none⟩) 64 r2, .slice (some ⟨m3, 0, none⟩) 12 r3] 36)) := below_alloc hB4 _
  have hl5 := blk_below hl3 hB5
  have hg5 := blk_below G3.out hB5
  have l0 : (w4.alloc (Obj.cells #[.slice (some ⟨m0, 0, none⟩) 16 r0, .slice (some ⟨m1, 0, none⟩) 6 r1, .slice (some ⟨m2, 0, none⟩) 64 r2, .slice (some ⟨m3, 0, none⟩) 12 r3] 36)).cell? ⟨gl, 0, none⟩ = some (.int .i64 1) := blk_cell hl5 0
  have y0 : (w4.alloc (Obj.cells #[.slice (some ⟨m0, 0, none⟩) 16 r0, .slice (some ⟨m1, 0, none⟩) 6 r1, .slice (some ⟨m2, 0, none⟩) 64 r2, .slice (some ⟨m3, 0, none⟩) 12 r3] 36)).cell? ⟨n, 0, none⟩ = some (.int .i64 30) := blk_cell hg5 0
  have y1 : (w4.alloc (Obj.cells #[.slice (some ⟨m0, 0, none⟩) 16 r0, .slice (some ⟨m1, 0, none⟩) 6 r1, .slice (some ⟨m2, 0, none⟩) 64 r2, .slice (some ⟨m3, 0, none⟩) 12 r3] 36)).cell? ⟨n, 1, none⟩ = some (.int .i64 12) := blk_cell hg5 1
  have y2 : (w4.alloc (Obj.cells #[.slice (some ⟨m0, 0, none⟩) 16 r0, .slice (some ⟨m1, 0, none⟩) 6 r1, .slice (some ⟨m2, 0, none⟩) 64 r2, .slice (some ⟨m3, 0, none⟩) 12 r3] 36)).cell? ⟨n, 2, none⟩ = some (.int .i64 6) := blk_cell hg5 2
  have y3 : (w4.alloc (Obj.cells #[.slice (some ⟨m0, 0, none⟩) 16 r0, .slice (some ⟨m1, 0, none⟩) 6 r1, .slice (some ⟨m2, 0, none⟩) 64 r2, .slice (some ⟨m3, 0, none⟩) 12 r3] 36)).cell? ⟨n, 3, none⟩ = some (.int .i64 8) := blk_cell hg5 3
  have G5 := Lib.hid hg5
  have L5 := Lib.hid hl5
  have HB5 := Lib.hid hB5
  have M4 := Lib.hid (hm4.below (below_alloc (Below.refl w4.heap.size w4) (Obj.cells #[.slice (some ⟨m0, 0, none⟩) 16 r0, .slice (some ⟨m1, 0, none⟩) 6 r1, .slice (some ⟨m2, 0, none⟩) 64 r2, .slice (some ⟨m3, 0, none⟩) 12 r3] 36)))
  have X5 := Lib.hid (blk_new w4 (Obj.cells #[.slice (some ⟨m0, 0, none⟩) 16 r0, .slice (some ⟨m1, 0, none⟩) 6 r1, .slice (some ⟨m2, 0, none⟩) 64 r2, .slice (some ⟨m3, 0, none⟩) 12 r3] 36))
  clear hm4 hB4 hB5 hl3 hl5 hg5
  go_wp2_with fail
  clear y0 y1 y2 y3
  clear l0
  obtain ⟨w5, hw5⟩ : ∃ w5, w4.alloc (Obj.cells #[.slice (some ⟨m0, 0, none⟩) 16 r0, .slice (some ⟨m1, 0, none⟩) 6 r1, .slice (some ⟨m2, 0, none⟩) 64 r2, .slice (some ⟨m3, 0, none⟩) 12 r3] 36) = w5 := ⟨_, rfl⟩
  obtain ⟨bm, hbm⟩ : ∃ g, w4.heap.size = g := ⟨_, rfl⟩
  rw [hw5] at G5 L5 HB5 M4 X5 ⊢
  rw [hbm] at X5 ⊢
  clear hw5 hbm
  have D5 := Lib.hid (D3.out.below HB5.out)
  have HBl5 := Lib.hid (Nat.le_trans HBl3.out HB5.out.size)
  have W5 := Lib.hid (below_step HB3.out HB5.out)
  clear D3 HBl3 HB3 G3 HB5
  refine (open_plain B gd gs dk0 zeroB 0 w5 D5.out rfl rfl HBl5.out rfl (by decide) (begins_zero gd)).mono ?_
  rintro e w6 ⟨gj, rfl, hgj, hJ6, hB6⟩
  have D6 := Lib.hid (D5.out.below hB6)
  have J6 := Lib.hid hJ6
  have Hgj := Lib.hid (show (gj ≠ gd ∧ gj ≠ gs) ∧ w.heap.size ≤ gd ∧ w.heap.size ≤ gs ∧ w.heap.size ≤ gj from by
    have h1 := D5.out.lt
    have h2 := HBl5.out
    have h3 := W5.out.size
    have h4 := Hgd.out
    omega)
  have W6 := Lib.hid (below_step W5.out hB6)
  have hg6 := blk_below G5.out hB6
  have hx6 := blk_below X5.out hB6
  have L6 := Lib.hid (blk_below L5.out hB6)
  have M6 := Lib.hid (M4.out.below hB6)
  have y0 : (w6).cell? ⟨n, 0, none⟩ = some (.int .i64 30) := blk_cell hg6 0
  have y1 : (w6).cell? ⟨n, 1, none⟩ = some (.int .i64 12) := blk_cell hg6 1
  have y2 : (w6).cell? ⟨n, 2, none⟩ = some (.int .i64 6) := blk_cell hg6 2
  have y3 : (w6).cell? ⟨n, 3, none⟩ = some (.int .i64 8) := blk_cell hg6 3
  have m'0 : (w6).cell? ⟨bm, 0, none⟩ = some (.slice (some ⟨m0, 0, none⟩) 16 r0) := blk_cell hx6 0
  have m'1 : (w6).cell? ⟨bm, 1, none⟩ = some (.slice (some ⟨m1, 0, none⟩) 6 r1) := blk_cell hx6 1
  have m'2 : (w6).cell? ⟨bm, 2, none⟩ = some (.slice (some ⟨m2, 0, none⟩) 64 r2) := blk_cell hx6 2
  have m'3 : (w6).cell? ⟨bm, 3, none⟩ = some (.slice (some ⟨m3, 0, none⟩) 12 r3) := blk_cell hx6 3
  have G6 := Lib.hid hg6
  have X6 := Lib.hid hx6
  have HBl6 := Lib.hid (Nat.le_trans HBl5.out hB6.size)
  clear D5 HBl5 W5 G5 X5 L5 M4 hJ6 hgj hB6 hg6 hx6
  go_wp2_with fail
  clear y0 y1 y2 y3 m'0 m'1 m'2 m'3
  refine (changeN _ _ r0 _ r1 _ r2 _ r3 mt0 A1 e1 N1 l w6 HN1.out (M6.out.F mt0_ok) mt0_ok (Kd.C_below HC1.out W6.out) HK1.out).mono ?_
  rintro e w7 ⟨a0, p0, a1, p1, a2, p2, a3, p3, X1, rfl, hX1, hm7, hB7⟩
  unfold metaC
  have hB8 : Below w6.heap.size w6 (w7.alloc (Obj.cells #[.slice (some ⟨a0, 0, none⟩) 16 p0, .slice (some ⟨a1, 0, none⟩) 6 p1, .slice (some ⟨a2, 0, none⟩) 64 p2, .slice (some ⟨a3, 0, none⟩) 12 p3] 36)) := below_alloc hB7 _
  have hg8 := blk_below G6.out hB8
  have hx8 := blk_new w7 (Obj.cells #[.slice (some ⟨a0, 0, none⟩) 16 p0, .slice (some ⟨a1, 0, none⟩) 6 p1, .slice (some ⟨a2, 0, none⟩) 64 p2, .slice (some ⟨a3, 0, none⟩) 12 p3] 36)
  have y0 : (w7.alloc (Obj.cells #[.slice (some ⟨a0, 0, none⟩) 16 p0, .slice (some ⟨a1, 0, none⟩) 6 p1, .slice (some ⟨a2, 0, none⟩) 64 p2, .slice (some ⟨a3, 0, none⟩) 12 p3] 36)).cell? ⟨n, 0, none⟩ = some (.int .i64 30) := blk_cell hg8 0
  have y1 : (w7.alloc (Obj.cells #[.slice (some ⟨a0, 0, none⟩) 16 p0, .slice (some ⟨a1, 0, none⟩) 6 p1, .slice (some ⟨a2, 0, none⟩) 64 p2, .slice (some ⟨a3, 0, none⟩) 12 p3] 36)).cell? ⟨n, 1, none⟩ = some (.int .i64 12) := blk_cell hg8 1
  have y2 : (w7.alloc (Obj.cells #[.slice (some ⟨a0, 0, none⟩) 16 p0, .slice (some ⟨a1, 0, none⟩) 6 p1, .slice (some ⟨a2, 0, none⟩) 64 p2, .slice (some ⟨a3, 0, none⟩) 12 p3] 36)).cell? ⟨n, 2, none⟩ = some (.int .i64 6) := blk_cell hg8 2
  have y3 : (w7.alloc (Obj.cells #[.slice (some ⟨a0, 0, none⟩) 16 p0, .slice (some ⟨a1, 0, none⟩) 6 p1, .slice (some ⟨a2, 0, none⟩) 64 p2, .slice (some ⟨a3, 0, none⟩) 12 p3] 36)).cell? ⟨n, 3, none⟩ = some (.int .i64 8) := blk_cell hg8 3
  have m'0 : (w7.alloc (Obj.cells #[.slice (some ⟨a0, 0, none⟩) 16 p0, .slice (some ⟨a1, 0, none⟩) 6 p1, .slice (some ⟨a2, 0, none⟩) 64 p2, .slice (some ⟨a3, 0, none⟩) 12 p3] 36)).cell? ⟨w7.heap.size, 0, none⟩ = some (.slice (some ⟨a0, 0, none⟩) 16 p0) := blk_cell hx8 0
  have m'1 : (w7.alloc (Obj.cells #[.slice (some ⟨a0, 0, none⟩) 16 p0, .slice (some ⟨a1, 0, none⟩) 6 p1, .slice (some ⟨a2, 0, none⟩) 64 p2, .slice (some ⟨a3, 0, none⟩) 12 p3] 36)).cell? ⟨w7.heap.size, 1, none⟩ = some (.slice (some ⟨a1, 0, none⟩) 6 p1) := blk_cell hx8 1
  have m'2 : (w7.alloc (Obj.cells #[.slice (some ⟨a0, 0, none⟩) 16 p0, .slice (some ⟨a1, 0, none⟩) 6 p1, .slice (some ⟨a2, 0, none⟩) 64 p2, .slice (some ⟨a3, 0, none⟩) 12 p3] 36)).cell? ⟨w7.heap.size, 2, none⟩ = some (.slice (some ⟨a2, 0, none⟩) 64 p2) := blk_cell hx8 2
  have m'3 : (w7.alloc (Obj.cells #[.slice (some ⟨a0, 0, none⟩) 16 p0, .slice (some ⟨a1, 0, none⟩) 6 p1, .slice (some ⟨a2, 0, none⟩) 64 p2, .slice (some ⟨a3, 0, none⟩) 12 p3] 36)).cell? ⟨w7.heap.size, 3, none⟩ = some (.slice (some ⟨a3, 0, none⟩) 12 p3) := blk_cell hx8 3
  have HX1 := Lib.hid hX1
  have G8 := Lib.hid hg8
  have X8 := Lib.hid hx8
  have L8 := Lib.hid (blk_below L6.out hB8)
  have M8 := Lib.hid ((hm7.lower (Nat.zero_le _)).below (below_alloc (Below.refl w7.heap.size w7) (Obj.cells #[.slice (some ⟨a0, 0, none⟩) 16 p0, .slice (some ⟨a1, 0, none⟩) 6 p1, .slice (some ⟨a2, 0, none⟩) 64 p2, .slice (some ⟨a3, 0, none⟩) 12 p3] 36)))
  have D8 := Lib.hid (D6.out.below hB8)
  have J8 := Lib.hid (blk_below J6.out hB8)
  have W8 := Lib.hid (below_step W6.out hB8)
  clear hX1 hm7 hB7 hB8 hg8 hx8 G6 X6 L6 M6 D6 J6 W6 HBl6
  go_wp2_with fail
  clear y0 y1 y2 y3 m'0 m'1 m'2 m'3
  obtain ⟨w8, hw8⟩ : ∃ w8, w7.alloc (Obj.cells #[.slice (some ⟨a0, 0, none⟩) 16 p0, .slice (some ⟨a1, 0, none⟩) 6 p1, .slice (some ⟨a2, 0, none⟩) 64 p2, .slice (some ⟨a3, 0, none⟩) 12 p3] 36) = w8 := ⟨_, rfl⟩
  obtain ⟨bf, hbf⟩ : ∃ g, w7.heap.size = g := ⟨_, rfl⟩
  rw [hw8] at G8 X8 L8 M8 D8 J8 W8 ⊢
  rw [hbf] at X8 ⊢
  clear hw8 hbf
  refine (changeN _ _ p0 _ p1 _ p2 _ p3 X1 A2 e2 N2 more w8 HN2.out (M8.out.F HX1.out) HX1.out (Kd.C_below HC2.out W8.out) HK2.out).mono ?_
  rintro e w9 ⟨b0, q0, b1, q1, b2, q2, b3, q3, X2, rfl, hX2, hm9, hB9⟩
  unfold metaC
  have hBa : Below w8.heap.size w8 (w9.alloc (Obj.cells #[.slice (some ⟨b0, 0, none⟩) 16 q0, .slice (some ⟨b1, 0, none⟩) 6 q1, .slice (some ⟨b2, 0, none⟩) 64 q2, .slice (some ⟨b3, 0, none⟩) 12 q3] 36)) := below_alloc hB9 _
  have hK : K2 n gl bf w9.heap.size a0 p0 a1 p1 a2 p2 a3 p3 X1 b0 q0 b1 q1 b2 q2 b3 q3 X2 gd gs gj (w9.alloc (Obj.cells #[.slice (some ⟨b0, 0, none⟩) 16 q0, .slice (some ⟨b1, 0, none⟩) 6 q1, .slice (some ⟨b2, 0, none⟩) 64 q2, .slice (some ⟨b3, 0, none⟩) 12 q3] 36)).heap.size (w9.alloc (Obj.cells #[.slice (some ⟨b0, 0, none⟩) 16 q0, .slice (some ⟨b1, 0, none⟩) 6 q1, .slice (some ⟨b2, 0, none⟩) 64 q2, .slice (some ⟨b3, 0, none⟩) 12 q3] 36)) :=
    K2.make (blk_below G8.out hBa) (blk_below L8.out hBa) (blk_below X8.out hBa) (blk_new _ _) (M8.out.below hBa) ((hm9.lower (Nat.zero_le _)).below (below_alloc (Below.refl _ _) _)) (D8.out.below hBa) (blk_below J8.out hBa)
  have m'0 : (w9.alloc (Obj.cells #[.slice (some ⟨b0, 0, none⟩) 16 q0, .slice (some ⟨b1, 0, none⟩) 6 q1, .slice (some ⟨b2, 0, none⟩) 64 q2, .slice (some ⟨b3, 0, none⟩) 12 q3] 36)).cell? ⟨bf, 0, none⟩ = some (.slice (some ⟨a0, 0, none⟩) 16 p0) := blk_cell hK.first 0
  have m'1 : (w9.alloc (Obj.cells #[.slice (some ⟨b0, 0, none⟩) 16 q0, .slice (some ⟨b1, 0, none⟩) 6 q1, .slice (some ⟨b2, 0, none⟩) 64 q2, .slice (some ⟨b3, 0, none⟩) 12 q3] 36)).cell? ⟨bf, 1, none⟩ = some (.slice (some ⟨a1, 0, none⟩) 6 p1) := blk_cell hK.first 1
  have m'2 : (w9.alloc (Obj.cells #[.slice (some ⟨b0, 0, none⟩) 16 q0, .slice (some ⟨b1, 0, none⟩) 6 q1, .slice (some ⟨b2, 0, none⟩) 64 q2, .slice (some ⟨b3, 0, none⟩) 12 q3] 36)).cell? ⟨bf, 2, none⟩ = some (.slice (some ⟨a2, 0, none⟩) 64 p2) := blk_cell hK.first 2
  have m'3 : (w9.alloc (Obj.cells #[.slice (some ⟨b0, 0, none⟩) 16 q0, .slice (some ⟨b1, 0, none⟩) 6 q1, .slice (some ⟨b2, 0, none⟩) 64 q2, .slice (some ⟨b3, 0, none⟩) 12 q3] 36)).cell? ⟨bf, 3, none⟩ = some (.slice (some ⟨a3, 0, none⟩) 12 p3) := blk_cell hK.first 3
  have HX2 := Lib.hid hX2
  have KA := Lib.hid hK
  have DA := Lib.hid (D8.out.below hBa)
  have JA := Lib.hid (show JAt (w9.alloc (Obj.cells #[.slice (some ⟨b0, 0, none⟩) 16 q0, .slice (some ⟨b1, 0, none⟩) 6 q1, .slice (some ⟨b2, 0, none⟩) 64 q2, .slice (some ⟨b3, 0, none⟩) 12 q3] 36)) gj gd 0 from blk_below J8.out hBa)
  have WA := Lib.hid (below_step W8.out hBa)
  clear hX2 hm9 hB9 hBa hK G8 X8 L8 M8 D8 J8 W8
  go_wp2_with fail
  clear m'0 m'1 m'2 m'3
  obtain ⟨wa, hwa⟩ : ∃ wa, w9.alloc (Obj.cells #[.slice (some ⟨b0, 0, none⟩) 16 q0, .slice (some ⟨b1, 0, none⟩) 6 q1, .slice (some ⟨b2, 0, none⟩) 64 q2, .slice (some ⟨b3, 0, none⟩) 12 q3] 36) = wa := ⟨_, rfl⟩
  obtain ⟨bs, hbs⟩ : ∃ g, w9.heap.size = g := ⟨_, rfl⟩
  rw [hwa] at KA DA JA WA ⊢
  rw [hbs] at KA ⊢
  clear hwa hbs
  obtain ⟨T, hT⟩ : ∃ T, wa.heap.size = T := ⟨_, rfl⟩
  rw [hT] at KA
  have HT := Lib.hid hT
  clear hT
  refine (laycl_any _ _ p0 _ p1 _ p2 _ p3 X1 n gl wa (KA.out.one.F HX1.out) HX1.out KA.out.geo KA.out.lay).mono ?_
  rintro e wb ⟨gp, cp, rfl, hcp, hFp, hBb⟩
  have KB := Lib.hid (KA.out.below (Nat.le_of_eq HT.out.symm) hBb)
  have DB := Lib.hid (DA.out.below hBb)
  have JB := Lib.hid (show JAt wb gj gd 0 from blk_below JA.out hBb)
  have WB := Lib.hid (below_step WA.out hBb)
  have HTB := Lib.hid (show T ≤ wb.heap.size from by have := hBb.size; have := HT.out; omega)
  have HFp := Lib.hid hFp
  have Hcp := Lib.hid hcp
  have Hin := Lib.hid (show gd < wa.heap.size ∧ gs < wa.heap.size ∧ gj < wa.heap.size from ⟨DA.out.inn.1, DA.out.inn.2, blk_lt JA.out⟩)
  clear hcp hFp hBb KA DA JA WA HT
  go_wp2_with fail
  refine (commit_any wb.heap.size gj gd gs 0 dk0 ⟨gp, 0, none⟩ cp (pat 31 (metaB X1)) _ wb JB.out Hgj.out.1 (DB.out.raise rfl DB.out.inn) rfl (Nat.le_refl _) HFp.out (fun k hk => by have := Hin.out; have hk' : wa.heap.size ≤ k := hk; omega) (pat_nine (metaB_len HX1.out) (metaB_64 HX1.out)) Hcp.out (by decide)).mono ?_
  intro e wc hP
  rw [runs_on dk0 0 _ rfl rfl] at hP
  obtain ⟨he, Bc, hBc1, hBc2, hDc, hJc, hFc⟩ := hP
  replace he : e = .returned (.int .i64 0) := he
  replace hJc : JAt wc gj gd 1 := hJc
  subst he
  obtain ⟨Sc, hSc⟩ : ∃ S, S4 dk0.secs 0 (pat 31 (metaB X1)) = S := ⟨_, rfl⟩
  obtain ⟨hn1, hn2⟩ := S4_new (S := dk0.secs) 0 (vs := metaB X1) (by simp [dk0]) (metaB_len HX1.out)
  rw [hSc] at hDc hn1 hn2
  have hs1 : ∀ j, j < 9 → Sc.getD (31 + j) [] = (metaB X1).getD j [] := fun j hj => by
    rw [hn2 j (by rw [metaB_len HX1.out]; exact hj), List.getD_eq_getElem?_getD, List.getElem?_eq_getElem (by rw [metaB_len HX1.out]; exact hj)]; rfl
  have HS1 := Lib.hid (And.intro (show Sc.getD 1 [] = headB 1 0 from hn1) hs1)
  have KC := Lib.hid (KB.out.fr hFc HTB.out (fun k hk => by rcases hk with h | h | h <;> simp [h]))
  have DC := Lib.hid hDc
  have JC := Lib.hid hJc
  have WC := Lib.hid (WB.out.trans (hFc.to_below WB.out.size (fun k hk => by have := Hgj.out; rcases hk with h | h | h <;> omega)))
  have HTC := Lib.hid (Nat.le_trans HTB.out hFc.size)
  clear hSc hBc1 hBc2 hDc hJc hFc hn1 hn2 hs1 KB DB JB WB HTB HFp Hcp Hin
  go_wp2_with fail
  refine (cut_any Bc gd gs _ cut wc DC.out rfl Hcut.out).mono ?_
  rintro e wd ⟨rfl, hDd, hFd⟩
  have KD := Lib.hid (KC.out.fr hFd HTC.out (fun k hk => .inl hk))
  have DD := Lib.hid hDd
  have JD := Lib.hid (show JAt wd gj gd 1 from hFd.blk JC.out Hgj.out.1.1)
  have WD := Lib.hid (WC.out.trans (hFd.to_below WC.out.size (fun k hk => by have := Hgj.out; have hk' : k = gd := hk; omega)))
  have HTD := Lib.hid (Nat.le_trans HTC.out hFd.size)
  have hsd := hDd.len
  have hnd := hDd.num
  have HSo := Lib.hid (show Sok Sc from ⟨hnd, hsd⟩)
  have m'0 : (wd).cell? ⟨bs, 0, none⟩ = some (.slice (some ⟨b0, 0, none⟩) 16 q0) := blk_cell KD.out.second 0
  have m'1 : (wd).cell? ⟨bs, 1, none⟩ = some (.slice (some ⟨b1, 0, none⟩) 6 q1) := blk_cell KD.out.second 1
  have m'2 : (wd).cell? ⟨bs, 2, none⟩ = some (.slice (some ⟨b2, 0, none⟩) 64 q2) := blk_cell KD.out.second 2
  have m'3 : (wd).cell? ⟨bs, 3, none⟩ = some (.slice (some ⟨b3, 0, none⟩) 12 q3) := blk_cell KD.out.second 3
  clear hDd hFd hsd hnd KC DC JC WC HTC
  go_wp2_with fail
  clear m'0 m'1 m'2 m'3
  refine (laycl_any _ _ q0 _ q1 _ q2 _ q3 X2 n gl wd (KD.out.two.F HX2.out) HX2.out KD.out.geo KD.out.lay).mono ?_
  rintro e we ⟨gp, cp, rfl, hcp, hFp, hBe⟩
  have KE := Lib.hid (KD.out.below HTD.out hBe)
  have DE := Lib.hid (DD.out.below hBe)
  have JE := Lib.hid (show JAt we gj gd 1 from blk_below JD.out hBe)
  have WE := Lib.hid (below_step WD.out hBe)
  have HTE := Lib.hid (Nat.le_trans HTD.out hBe.size)
  have HFp := Lib.hid hFp
  have Hcp := Lib.hid hcp
  have Hin := Lib.hid (show gd < wd.heap.size ∧ gs < wd.heap.size ∧ gj < wd.heap.size from ⟨DD.out.inn.1, DD.out.inn.2, blk_lt JD.out⟩)
  clear hcp hFp hBe KD DD JD WD HTD
  go_wp2_with fail
  obtain ⟨Dc, hDc⟩ : ∃ D : Dk, { secs := Sc, waits := [], dead := false, fuse := max cut (-1) } = D := ⟨_, rfl⟩
  have hDE : DiskAt we Bc gd gs Dc := by rw [← hDc]; exact DE.out
  have hwE : Dc.waits = [] := by rw [← hDc]
  have hsE : Dc.secs = Sc := by rw [← hDc]
  have HR := Lib.hid (ran Dc 1 (metaB X2) (metaB_len HX2.out) (metaB_64 HX2.out) (by rw [hsE]; exact HSo.out) hwE)
  have HsE := Lib.hid hsE
  refine (commit_any we.heap.size gj gd gs 1 Dc ⟨gp, 0, none⟩ cp (pat 31 (metaB X2)) _ we JE.out Hgj.out.1 (hDE.raise hwE hDE.inn) hwE (Nat.le_refl _) HFp.out (fun k hk => by have := Hin.out; have hk' : wd.heap.size ≤ k := hk; omega) (pat_nine (metaB_len HX2.out) (metaB_64 HX2.out)) Hcp.out (by decide)).mono ?_
  intro e wf hP
  obtain ⟨r, hr⟩ : ∃ r, runL Dc (partsL 1 (pat 31 (metaB X2))) = r := ⟨_, rfl⟩
  rw [hr] at hP HR
  obtain ⟨rfl, Bf, hBf1, hBf2, hDf, hJf, hFf⟩ := hP
  have KF := Lib.hid (KE.out.fr hFf HTE.out (fun k hk => by rcases hk with h | h | h <;> simp [h]))
  have DF := Lib.hid hDf
  have WF := Lib.hid (WE.out.trans (hFf.to_below WE.out.size (fun k hk => by have := Hgj.out; rcases hk with h | h | h <;> omega)))
  have HTF := Lib.hid (show T ≤ Bf ∧ Bf ≤ wf.heap.size from ⟨Nat.le_trans HTE.out hBf1, hBf2⟩)
  obtain ⟨ed, hed⟩ : ∃ x : Int, (if r.1 then 0 else 6) = x := ⟨_, rfl⟩
  rw [hed]
  have HED := Lib.hid hed
  clear hDc hDE hwE hsE hr hBf1 hBf2 hDf hJf hFf hed KE DE JE WE HTE HFp Hcp Hin HSo
  go_wp2_with fail
  refine (crash_any Bf gd gs r.2 there wf DF.out HTF.out.2 HR.out.waits HR.out.few).mono ?_
  rintro e wg ⟨rfl, f, hDg, hFg⟩
  have hTg : T ≤ wf.heap.size := Nat.le_trans HTF.out.1 HTF.out.2
  have KG := Lib.hid (KF.out.fr hFg hTg (fun k hk => by
    rcases hk with h | h | h
    · exact .inl h
    · exact .inr (.inl h)
    · exact .inr (.inr (.inr (Nat.le_trans HTF.out.1 h)))))
  have hl := HR.out.left _ ⟨f, rfl⟩
  obtain ⟨Dg, hDg0⟩ : ∃ D : Dk, { secs := redo f r.2.waits (undo r.2.waits r.2.secs), waits := [], dead := false, fuse := -1 } = D := ⟨_, rfl⟩
  have hg1 : Dg.dead = false := by rw [← hDg0]
  have hg2 : Dg.fuse = -1 := by rw [← hDg0]
  have hg3 : Dg.waits = [] := by rw [← hDg0]
  have hg4 : redo f r.2.waits (undo r.2.waits r.2.secs) = Dg.secs := by rw [← hDg0]
  rw [hDg0] at hDg
  rw [hg4, HsE.out] at hl
  have DG := Lib.hid hDg
  have HL := Lib.hid hl
  have HG := Lib.hid (And.intro hg1 (And.intro hg2 hg3))
  have WG := Lib.hid (WF.out.trans (hFg.to_below WF.out.size (fun k hk => by
    have h1 := Hgj.out
    have h2 := HTF.out
    have h3 := KF.out.lt n (by simp)
    have h4 := Hgd.out
    have h5 := HW.out
    rcases hk with h | h | h <;> omega)))
  have HTG := Lib.hid (show T ≤ wg.heap.size ∧ Bf ≤ wg.heap.size from ⟨Nat.le_trans hTg hFg.size, Nat.le_trans HTF.out.2 hFg.size⟩)
  have l0 : wg.cell? ⟨gl, 0, none⟩ = some (.int .i64 1) := blk_cell KG.out.lay 0
  have y0 : (wg).cell? ⟨n, 0, none⟩ = some (.int .i64 30) := blk_cell KG.out.geo 0
  have y1 : (wg).cell? ⟨n, 1, none⟩ = some (.int .i64 12) := blk_cell KG.out.geo 1
  have y2 : (wg).cell? ⟨n, 2, none⟩ = some (.int .i64 6) := blk_cell KG.out.geo 2
  have y3 : (wg).cell? ⟨n, 3, none⟩ = some (.int .i64 8) := blk_cell KG.out.geo 3
  clear hDg0 hg1 hg2 hg3 hg4 hDg hl hFg hTg KF DF WF HTF HR HsE
  go_wp2_with fail
  clear y0 y1 y2 y3
  clear l0
  refine (open_after Bf gd gs Dg r.1 Sc X1 X2 wg DG.out HG.out.1 HG.out.2.1 HG.out.2.2 HTG.out.2 HX2.out HL.out HS1.out.1 HS1.out.2).mono ?_
  rintro e wh ⟨gk', ck, Bh, Dh, X, rfl, hDh, hdh, hX, hsec, hFh⟩
  have KH := Lib.hid (KG.out.fr hFh HTG.out.1 (fun k hk => by rcases hk with h | h <;> simp [h]))
  have DH := Lib.hid (And.intro hDh (And.intro hdh hsec))
  have WH := Lib.hid (WG.out.trans (hFh.to_below WG.out.size (fun k hk => by have := Hgj.out; rcases hk with h | h <;> omega)))
  have HTH := Lib.hid (Nat.le_trans HTG.out.1 hFh.size)
  have HX := Lib.hid hX
  have HXo := Lib.hid (show MtOk X from by rcases hX with h | ⟨_, h⟩ <;> rw [h]; exact HX2.out; exact HX1.out)
  have l1 : wh.cell? ⟨gl, 1, none⟩ = some (.int .i64 31) := blk_cell KH.out.lay 1
  clear hDh hdh hX hsec hFh KG DG HG WG HTG HL HS1
  go_wp2_with fail
  clear l1
  have HXl := Lib.hid (metaB_len HXo.out)
  go_loopg [25, 26] 9 (fun q v25 i wr => ∃ k rws, k + q = 9 ∧ i = .int .i64 (31 + (k : Int)) ∧ Hid (Kd.R SL 33 wr wh.heap.size (fun _ => True) v25 rws) ∧ Hid (Says wr (okT wh.heap.size wr) rws (tagB ((metaB X).take k))) ∧ Hid (Below wh.heap.size wh wr))
  case atStart => exact ⟨0, [], rfl, rfl, Lib.hid (Kd.R_nil _ _ _ _ _), Lib.hid (Says.nil _ _), Lib.hid (Below.refl _ _)⟩
  case round =>
    obtain ⟨k, rws, hq, rfl, hR, hS, hB⟩ := hrel
    have l5 : wr.cell? ⟨gl, 5, none⟩ = some (.int .i64 40) := blk_cell (blk_below KH.out.lay hB.out) 5
    cases gk with
    | succ q =>
      have d1 : decide (31 + (k : Int) < 40) = true := decide_eq_true (by omega)
      go_wp2_with fail
      refine (readN Bh gd gs Dh (31 + k) (31 + (k : Int)) wr (by push_cast; rfl) (DH.out.1.below hB.out) DH.out.2.1 (by omega)).mono ?_
      rintro e w9 ⟨v9, rfl, hR9, hB9⟩
      have hkl : k < (metaB X).length := by rw [HXl.out]; omega
      have e9 : Dh.secs.getD (31 + k) [] = (metaB X)[k] := by rw [DH.out.2.2 k (by omega), List.getD_eq_getElem?_getD, List.getElem?_eq_getElem hkl]; rfl
      rw [e9] at hR9
      have h64 : ((metaB X)[k]).length = 64 := metaB_64 HXo.out _ (List.getElem_mem hkl)
      obtain ⟨A9, c9, rfl, hc9, -⟩ := Kd.R_reads hR9
      rw [h64] at hR9 hc9 ⊢
      have hln : rws.length = k := by rw [hS.out.1, tagB, List.length_map, List.length_take, HXl.out]; omega
      have h1 := (hS.out.typedB hB9).append (Says.one (r := (0, A9, c9)) (x := (0, (metaB X)[k])) rfl h64 hc9 (F_typed hR9 hB.out.size))
      have h2 := h1.typedB (below_alloc (Below.refl _ _) (.cells #[slV (0, A9, c9)] 33))
      have hRr : Kd.R SL 33 (w9.alloc (.cells #[slV (0, A9, c9)] 33)) wh.heap.size (fun _ => True) u25 rws := Kd.R_below (Kd.R_below hR.out hB9) (below_alloc (Below.refl _ _) _)
      obtain ⟨v10, w10, hap10, hR10, hg10⟩ := SL_plain.append (w9.alloc (.cells #[slV (0, A9, c9)] 33)) wh.heap.size 44 44 33 (.slice none 0 0) 24 Try.underlying44 info_bytes rfl (by decide) u25 rws [(0, A9, c9)] hRr (some ⟨w9.heap.size, 0, none⟩) 1 1 (by decide) (Kd.F_now (Kd.R_F (SL_lit w9 [(0, A9, c9)] (by simp)))) (by omega) (by unfold maxLen; omega) (by have h1 := hB.out.size; have h2 := hB9.size; rw [World.size_alloc]; omega)
      have h3 : Says w10 (okT wh.heap.size w10) (rws ++ [(0, A9, c9)]) (tagB ((metaB X).take (k + 1))) := by
        rw [List.take_succ_eq_append_getElem hkl, tagB_snoc]
        exact h2.typed (fun k cells _ hk => hg10.block k (blk_lt hk) (Kd.R_ne hRr hk (by decide)))
      have hB10 : Below wh.heap.size wh w10 := pw_below_grown (below_step (below_step hB.out hB9) (below_alloc (Below.refl w9.heap.size w9) (.cells #[slV (0, A9, c9)] 33))) _ (by have h1 := hB.out.size; have h2 := hB9.size; rw [World.size_alloc]; omega) hg10 (fun k hk => R_base' hRr k hk)
      have Hap := Lib.hid hap10
      unfold slV at Hap
      have HR10 := Lib.hid hR10
      have HS10 := Lib.hid h3
      have HB10 := Lib.hid hB10
      clear hR9 hB9 hkl e9 h64 hc9 hln h1 h2 hRr hap10 hR10 hg10 h3 hB10 hR hS hB l5
      have s2 : wrap64 (31 + (k : Int) + 1) = 31 + ((k + 1 : Nat) : Int) := by unfold wrap64; push_cast; omega
      go_wp2_with (first | ((with_reducible refine gate_builtin (b := .append) (xs := #[.tmp 136, .tmp 138]) rfl ?_); at_builtin; refine wpList_append_eq rfl (.tmp 136) (.tmp 138) 44 rfl _ _ v10 rfl rfl Hap.out ?_))
      go_roundg q
      case measure => omega
      case rel => exact ⟨k + 1, _, by omega, by go_num, HR10, HS10, HB10⟩
    | zero =>
      obtain rfl : k = 9 := by omega
      have d1 : decide (31 + ((9 : Nat) : Int) < 40) = false := rfl
      have hS9 := hS.out
      rw [List.take_of_length_le (by rw [HXl.out]; exact Nat.le_refl _)] at hS9
      have hl9 : rws.length = 9 := by rw [hS9.1, tagB, List.length_map, HXl.out]
      obtain ⟨gv, cv, rfl⟩ := R_some hR.out (by omega)
      obtain ⟨Ar, cr, er, hcr, hCr⟩ := Kd.R_reads hR.out
      rw [hl9] at er hcr hCr ⊢
      injection er with er1 er2 er3
      subst er3
      rw [← er1] at hCr
      have HCr := Lib.hid hCr
      have Hcr := Lib.hid hcr
      have HS9 := Lib.hid hS9
      have KR := Lib.hid (KH.out.below HTH.out hB.out)
      have WR := Lib.hid (below_step WH.out hB.out)
      have HTR := Lib.hid (Nat.le_trans HTH.out hB.out.size)
      have y0 : (wr).cell? ⟨n, 0, none⟩ = some (.int .i64 30) := blk_cell KR.out.geo 0
      have y1 : (wr).cell? ⟨n, 1, none⟩ = some (.int .i64 12) := blk_cell KR.out.geo 1
      have y2 : (wr).cell? ⟨n, 2, none⟩ = some (.int .i64 6) := blk_cell KR.out.geo 2
      have y3 : (wr).cell? ⟨n, 3, none⟩ = some (.int .i64 8) := blk_cell KR.out.geo 3
      clear hS9 hl9 hcr hCr er1 er2 hR hS hB KH DH WH HTH
      go_wp2_with fail
      clear y0 y1 y2 y3
      refine (metatake_any X HXo.out _ gv cv rws wr HCr.out HS9.out Hcr.out).mono ?_
      rintro e ws ⟨m0', t0, m1', t1, m2', t2, m3', t3, rfl, hms, hBs⟩
      unfold metaC
      have hBt : Below wr.heap.size wr (ws.alloc (Obj.cells #[.slice (some ⟨m0', 0, none⟩) 16 t0, .slice (some ⟨m1', 0, none⟩) 6 t1, .slice (some ⟨m2', 0, none⟩) 64 t2, .slice (some ⟨m3', 0, none⟩) 12 t3] 36)) := below_alloc hBs _
      have hKt := KR.out.below HTR.out hBt
      have hxt := blk_new ws (Obj.cells #[.slice (some ⟨m0', 0, none⟩) 16 t0, .slice (some ⟨m1', 0, none⟩) 6 t1, .slice (some ⟨m2', 0, none⟩) 64 t2, .slice (some ⟨m3', 0, none⟩) 12 t3] 36)
      have HTt := Lib.hid (Nat.le_trans HTR.out hBt.size)
      have x0 : (ws.alloc (Obj.cells #[.slice (some ⟨m0', 0, none⟩) 16 t0, .slice (some ⟨m1', 0, none⟩) 6 t1, .slice (some ⟨m2', 0, none⟩) 64 t2, .slice (some ⟨m3', 0, none⟩) 12 t3] 36)).cell? ⟨ws.heap.size, 0, none⟩ = some (.slice (some ⟨m0', 0, none⟩) 16 t0) := blk_cell hxt 0
      have x1 : (ws.alloc (Obj.cells #[.slice (some ⟨m0', 0, none⟩) 16 t0, .slice (some ⟨m1', 0, none⟩) 6 t1, .slice (some ⟨m2', 0, none⟩) 64 t2, .slice (some ⟨m3', 0, none⟩) 12 t3] 36)).cell? ⟨ws.heap.size, 1, none⟩ = some (.slice (some ⟨m1', 0, none⟩) 6 t1) := blk_cell hxt 1
      have x2 : (ws.alloc (Obj.cells #[.slice (some ⟨m0', 0, none⟩) 16 t0, .slice (some ⟨m1', 0, none⟩) 6 t1, .slice (some ⟨m2', 0, none⟩) 64 t2, .slice (some ⟨m3', 0, none⟩) 12 t3] 36)).cell? ⟨ws.heap.size, 2, none⟩ = some (.slice (some ⟨m2', 0, none⟩) 64 t2) := blk_cell hxt 2
      have x3 : (ws.alloc (Obj.cells #[.slice (some ⟨m0', 0, none⟩) 16 t0, .slice (some ⟨m1', 0, none⟩) 6 t1, .slice (some ⟨m2', 0, none⟩) 64 t2, .slice (some ⟨m3', 0, none⟩) 12 t3] 36)).cell? ⟨ws.heap.size, 3, none⟩ = some (.slice (some ⟨m3', 0, none⟩) 12 t3) := blk_cell hxt 3
      have z0 : (ws.alloc (Obj.cells #[.slice (some ⟨m0', 0, none⟩) 16 t0, .slice (some ⟨m1', 0, none⟩) 6 t1, .slice (some ⟨m2', 0, none⟩) 64 t2, .slice (some ⟨m3', 0, none⟩) 12 t3] 36)).cell? ⟨bs, 0, none⟩ = some (.slice (some ⟨b0, 0, none⟩) 16 q0) := blk_cell hKt.second 0
      have z1 : (ws.alloc (Obj.cells #[.slice (some ⟨m0', 0, none⟩) 16 t0, .slice (some ⟨m1', 0, none⟩) 6 t1, .slice (some ⟨m2', 0, none⟩) 64 t2, .slice (some ⟨m3', 0, none⟩) 12 t3] 36)).cell? ⟨bs, 1, none⟩ = some (.slice (some ⟨b1, 0, none⟩) 6 q1) := blk_cell hKt.second 1
      have z2 : (ws.alloc (Obj.cells #[.slice (some ⟨m0', 0, none⟩) 16 t0, .slice (some ⟨m1', 0, none⟩) 6 t1, .slice (some ⟨m2', 0, none⟩) 64 t2, .slice (some ⟨m3', 0, none⟩) 12 t3] 36)).cell? ⟨bs, 2, none⟩ = some (.slice (some ⟨b2, 0, none⟩) 64 q2) := blk_cell hKt.second 2
      have z3 : (ws.alloc (Obj.cells #[.slice (some ⟨m0', 0, none⟩) 16 t0, .slice (some ⟨m1', 0, none⟩) 6 t1, .slice (some ⟨m2', 0, none⟩) 64 t2, .slice (some ⟨m3', 0, none⟩) 12 t3] 36)).cell? ⟨bs, 3, none⟩ = some (.slice (some ⟨b3, 0, none⟩) 12 q3) := blk_cell hKt.second 3
      have KT := Lib.hid hKt
      have WT := Lib.hid (below_step WR.out hBt)
      have MT := Lib.hid ((hms.lower (Nat.zero_le _)).below (below_alloc (Below.refl ws.heap.size ws) (Obj.cells #[.slice (some ⟨m0', 0, none⟩) 16 t0, .slice (some ⟨m1', 0, none⟩) 6 t1, .slice (some ⟨m2', 0, none⟩) 64 t2, .slice (some ⟨m3', 0, none⟩) 12 t3] 36)))
      have XT := Lib.hid hxt
      clear hms hBs hBt hKt hxt HCr Hcr HS9 KR WR HTR
      go_wp2_with fail
      clear x0 x1 x2 x3 z0 z1 z2 z3
      obtain ⟨wt, hwt⟩ : ∃ wt, ws.alloc (Obj.cells #[.slice (some ⟨m0', 0, none⟩) 16 t0, .slice (some ⟨m1', 0, none⟩) 6 t1, .slice (some ⟨m2', 0, none⟩) 64 t2, .slice (some ⟨m3', 0, none⟩) 12 t3] 36) = wt := ⟨_, rfl⟩
      obtain ⟨bn, hbn⟩ : ∃ g, ws.heap.size = g := ⟨_, rfl⟩
      rw [hwt] at KT WT MT XT HTt ⊢
      rw [hbn] at XT ⊢
      clear hwt hbn
      refine (samecl_any _ _ _ t0 _ t1 _ t2 _ t3 X _ q0 _ q1 _ q2 _ q3 X2 n wt (MT.out.F HXo.out) HXo.out (KT.out.two.F HX2.out) HX2.out KT.out.geo).mono ?_
      rintro e wu ⟨b1, rfl, hb1, hBu⟩
      have WU := Lib.hid (below_step WT.out hBu)
      cases b1 with
      | true =>
        clear hBu
        go_wp2_with fail
        go_ret
        exact ⟨rfl, WU.out⟩
      | false =>
        have hXr : r.1 = false ∧ X = X1 := by
          rcases HX.out with h | h
          · exact absurd (hb1 (by rw [h])) (by decide)
          · exact h
        obtain ⟨hr1, hXe⟩ := hXr
        have hed : ed = 6 := by rw [← HED.out, hr1]; rfl
        subst hed
        have hXu := blk_below XT.out hBu
        have hKu := KT.out.below HTt.out hBu
        have x0 : (wu).cell? ⟨bn, 0, none⟩ = some (.slice (some ⟨m0', 0, none⟩) 16 t0) := blk_cell hXu 0
        have x1 : (wu).cell? ⟨bn, 1, none⟩ = some (.slice (some ⟨m1', 0, none⟩) 6 t1) := blk_cell hXu 1
        have x2 : (wu).cell? ⟨bn, 2, none⟩ = some (.slice (some ⟨m2', 0, none⟩) 64 t2) := blk_cell hXu 2
        have x3 : (wu).cell? ⟨bn, 3, none⟩ = some (.slice (some ⟨m3', 0, none⟩) 12 t3) := blk_cell hXu 3
        have z0 : (wu).cell? ⟨bf, 0, none⟩ = some (.slice (some ⟨a0, 0, none⟩) 16 p0) := blk_cell hKu.first 0
        have z1 : (wu).cell? ⟨bf, 1, none⟩ = some (.slice (some ⟨a1, 0, none⟩) 6 p1) := blk_cell hKu.first 1
        have z2 : (wu).cell? ⟨bf, 2, none⟩ = some (.slice (some ⟨a2, 0, none⟩) 64 p2) := blk_cell hKu.first 2
        have z3 : (wu).cell? ⟨bf, 3, none⟩ = some (.slice (some ⟨a3, 0, none⟩) 12 p3) := blk_cell hKu.first 3
        have KU := Lib.hid hKu
        have MU := Lib.hid (MT.out.below hBu)
        have HXe := Lib.hid hXe
        clear hb1 hBu hr1 hXe hXu hKu KT MT XT WT
        go_wp2_with fail
        refine (samecl_any _ _ _ t0 _ t1 _ t2 _ t3 X _ p0 _ p1 _ p2 _ p3 X1 n wu (MU.out.F HXo.out) HXo.out (KU.out.one.F HX1.out) HX1.out KU.out.geo).mono ?_
        rintro e wv ⟨b2, rfl, hb2, hBv⟩
        obtain rfl : b2 = true := hb2 (by rw [HXe.out])
        have WV := Lib.hid (below_step WU.out hBv)
        clear hBv hb2
        go_wp2_with fail
        go_ret
        exact ⟨rfl, WV.out⟩
end Go.Proofs.Ytpbijdalfeaheaa.Tf

/- TopKnown's arguments, opened: rows of changes. -/
namespace Go.Proofs.Ytpbijdalfeaheaa.Tf
open Go.RowKit Go.Deep Go.ChangeShapes Go.WideShapes Go.Joins Go.Proofs.YtpbijdalfeaheaaW.PrintWords
set_option linter.unusedVariables false
set_option linter.unusedSimpArgs false
theorem cells_known : Try.prog.cellsOf 86 = 4 := by kernel_rfl
theorem cells_u8 : Try.prog.cellsOf 5 = 1 := by kernel_rfl
theorem cells_u16 : Try.prog.cellsOf 47 = 1 := by kernel_rfl
section
variable {H : Type} {enc : TypeId × Value → H} {W : World} {base : Nat} {sp : Nat → Bool} {held : Bool}
set_option maxRecDepth 100000 in
theorem open_known {fuel : Nat} {cs : List Value} {x : DataW H × List MemPlace} (h : DataW.trod enc Try.prog W base sp held fuel 86 cs = some x) : ∃ y : Kn, cs = knC y ∧ KnOk y := by
  obtain ⟨y0, y1, y2, y3, n, -, hl, h0, h1, h2, h3⟩ := trod_struct4 Try.underlying86 h
  rw [cells_known] at hl
  match cs, hl with
  | [c0, c1, c2, c3], _ =>
    have k0 : DataW.trod enc Try.prog W base sp held n 5 ((([c0, c1, c2, c3] : List Value).drop 0).take (Try.prog.cellsOf 5)) = some y0 := h0
    have k1 : DataW.trod enc Try.prog W base sp held n 47 ((([c0, c1, c2, c3] : List Value).drop 1).take (Try.prog.cellsOf 47)) = some y1 := h1
    have k2 : DataW.trod enc Try.prog W base sp held n 5 ((([c0, c1, c2, c3] : List Value).drop 2).take (Try.prog.cellsOf 5)) = some y2 := h2
    have k3 : DataW.trod enc Try.prog W base sp held n 47 ((([c0, c1, c2, c3] : List Value).drop 3).take (Try.prog.cellsOf 47)) = some y3 := h3
    rw [cells_u8] at k0 k2
    rw [cells_u16] at k1 k3
    obtain ⟨i0, e0, -, w0⟩ := DataW.trod_int Try.underlying5 k0
    obtain ⟨i1, e1, -, w1⟩ := DataW.trod_int Try.underlying47 k1
    obtain ⟨i2, e2, -, w2⟩ := DataW.trod_int Try.underlying5 k2
    obtain ⟨i3, e3, -, w3⟩ := DataW.trod_int Try.underlying47 k3
    simp at e0 e1 e2 e3
    subst e0 e1 e2 e3
    have b0 := bounds_u8 w0
    have b1 := bounds_u16 w1
    have b2 := bounds_u8 w2
    have b3 := bounds_u16 w3
    exact ⟨(i0, i1, i2, i3), rfl, ⟨b0.1, by show i0 < 256; omega⟩, ⟨b1.1, by show i1 < 65536; omega⟩, ⟨b2.1, by show i2 < 256; omega⟩, ⟨b3.1, by show i3 < 65536; omega⟩⟩
/-- The row of changes that came in. -/
theorem open_knowns {fuel : Nat} {a : Option Addr} {len cap : Nat} {x : DataW H × List MemPlace} (h : DataW.trod enc Try.prog W 0 (fun _ => true) held fuel 22 [.slice a len cap] = some x) :
    len ≤ cap ∧ ∃ l : List Kn, l.length = len ∧ KNK.C W a l.length l ∧ ∀ y ∈ l, KnOk y := by
  rcases open_slice Try.underlying22 h with ⟨hcs, _⟩ | ⟨ad, l, c, m, n, Dd, Pl, hcs, hb, hl, hm, hmm, hx, hi⟩
  · simp at hcs
    obtain ⟨rfl, rfl, rfl⟩ := hcs
    exact ⟨Nat.le_refl _, [], rfl, Kd.C_nil _ _, fun y hy => by cases hy⟩
  · simp at hcs
    obtain ⟨rfl, rfl, rfl⟩ := hcs
    have hmc : m = cap := by rw [hmm]; rfl
    have hp : ∀ i, i < len → ∃ y : Kn, (∀ j u, (knC y)[j]? = some u → W.cell? (ad.add (i * 4 + j)) = some u) ∧ KnOk y := by
      intro i hil
      obtain ⟨cs', hc, ht⟩ := hi i (by omega)
      obtain ⟨y, rfl, hw⟩ := open_known ht
      rw [cells_known] at hc
      obtain ⟨_, hcl, hat⟩ := World.cells?_some hc
      refine ⟨y, fun j u hj => ?_, hw⟩
      have hj4 : j < 4 := by
        have := (List.getElem?_eq_some_iff.1 hj).1
        simpa [knC] using this
      rw [← Go.Deep.add_add, hat j hj4, hj]
    obtain ⟨f, hf⟩ := choose_lt (α := Kn) hp
    have hlen : ((List.range len).map f).length = len := by simp
    refine ⟨hl, (List.range len).map f, hlen, ?_, ?_⟩
    · rw [hlen]
      refine ⟨hlen, by unfold maxLen at hm; omega, fun _ => ⟨ad, rfl, fun j p hj => ?_⟩⟩
      rw [List.getElem?_map] at hj
      by_cases hjl : j < len
      · rw [List.getElem?_range hjl] at hj
        simp at hj
        subst hj
        exact ⟨_, rfl, ⟨rfl, rfl⟩, (hf j hjl).1⟩
      · rw [List.getElem?_eq_none (by simp; omega)] at hj; cases hj
    · intro y hy
      obtain ⟨j, hj, rfl⟩ := List.mem_map.1 hy
      exact (hf j (List.mem_range.1 hj)).2
end
end Go.Proofs.Ytpbijdalfeaheaa.Tf
