/- Walks and plain laws on which the claim stands, several texts joined. -/
import Derived.Test.YtpbijdalfeaheaaM1
import Derived.WalkSpells
import Derived.Deep.MidRow

/- sum.Open, of what was sealed. -/
namespace Go.Proofs.Ytpbijdalfeaheaa.Tf
open Go.RowKit Go.Proofs.YtpbijdalfeaheaaW.PrintWords Go.Proofs.YtpbijdalfeaheaaW.PrintLast Go.Proofs.YtpbijdalfeaheaaW.PrintMore
set_option linter.unusedVariables false
set_option linter.unusedSimpArgs false
theorem sealL_len (xs : List Int) : (sealL xs).length = xs.length + 4 := by simp [sealL, putL_len]
theorem get_mid (l : List Int) (at_ size : Nat) (n : Int) (h1 : 1 ≤ size) (h8 : size ≤ 8) (hl : at_ + size ≤ l.length) (hm : l.length ≤ 100000) (hg : (l.take (at_ + size)).drop at_ = putL n size) (h0 : 0 ≤ n) (h : n < 256 ^ size) : P.field_Get.f 9 l (at_ : Int) (size : Int) = some (n, 0) := by
  have hgp := get_put n h0 size h8 h
  clear h
  have w1 : wrap64 ((at_ : Int) + (size : Int)) = ((at_ + size : Nat) : Int) := by unfold wrap64; omega
  have w2 : wrap64 ((l.length : Int) - (at_ : Int)) = (l.length : Int) - (at_ : Int) := by unfold wrap64; omega
  have hs : P.field_stands.f (l.length : Int) (at_ : Int) (size : Int) = some true := by
    unfold P.field_stands.f
    rw [if_pos (by omega), if_pos (by omega), if_pos (by omega), if_pos (by omega), w2]
    congr 1
    exact decide_eq_true (by omega)
  unfold P.field_Get.f
  rw [hs, Option.bind_some, if_pos rfl, w1, if_pos (by omega), if_pos (by omega), if_pos (by omega), Int.toNat_natCast, Int.toNat_natCast, hg, hgp]
  rfl
theorem get_seal (xs : List Int) (hm : xs.length ≤ 3000) : P.field_Get.f 9 (sealL xs) (xs.length : Int) 4 = some (ofB xs, 0) := by
  have hr := ofB_range xs
  refine get_mid (sealL xs) xs.length 4 (ofB xs) (by omega) (by omega) (by rw [sealL_len]; exact Nat.le_refl _) (by rw [sealL_len]; omega) ?_ hr.1 (Int.lt_of_lt_of_le hr.2 (by decide))
  unfold sealL
  rw [List.take_of_length_le (by simp [putL_len]), List.drop_left' rfl]
theorem copy_in2 {w0 : World} (W : World) (ty : TypeId) (g o dLen dCap : Nat) (A : Option Addr) (n c : Nat) (ys xs : List Int) (hB : Bk W g ys) (hC : Kd.C (Kd.int .u8) W A xs.length xs) (h0 : 0 < xs.length) (hmin : xs.length = Nat.min n dLen) (hfit : o + xs.length ≤ ys.length) (hg : w0.heap.size ≤ g) (hb : Below w0.heap.size w0 W) :
    ∃ w4, (Builtin.copy_ #[33, 33] ty #[.slice (some ⟨g, o, none⟩) dLen dCap, .slice A n c]).run Try.prog W = .ok (goInt xs.length) w4 ∧ Bk w4 g (splice ys o xs) ∧ Below w0.heap.size w0 w4 := by
  obtain ⟨ad, rfl, hsrc⟩ := C_src hC (by rw [nums_length]; omega)
  have h := run_copy_row (P := Try.prog) W 33 33 ty 5 g o dLen dCap ad n c (nums .u8 ys).toArray 5 (nums .u8 xs) Try.underlying33 sz_u8 hB (by rw [nums_length]; exact hmin) hsrc (by simpa [nums] using hfit) (one_nums xs)
  rw [nums_length] at h
  refine ⟨_, h, ?_, below_setRow hb hg _⟩
  unfold Bk
  rw [← splice_nums]
  have := setRow_heap W g (nums .u8 ys).toArray ((nums .u8 ys).toArray.toList.take o ++ nums .u8 xs ++ (nums .u8 ys).toArray.toList.drop (o + xs.length)).toArray 5 (0, 0) hB
  rw [this]
  simp [splice, nums_length]
theorem getC (A0 : Option Addr) (c0 m : Nat) (l : List Int) (a1 a2 r1 r2 : Int) (w : World) (hm : l.length = m) (hr : Kd.C (Kd.int .u8) w A0 l.length l) (hc : l.length ≤ c0) (h : P.field_Get.f 9 l a1 a2 = some (r1, r2)) :
    Calls Try.prog 40 #[.slice A0 m c0, .int .i64 a1, .int .i64 a2] w fun e w' => e = .returned (.tuple #[.int .u64 r1, .int .i64 r2]) ∧ Drawn0 w w' := by
  subst hm; exact P.field_Get.calls 9 A0 c0 l a1 a2 r1 r2 w hr hc h
set_option maxHeartbeats 4000000 in
set_option maxRecDepth 100000 in
theorem open_any (A0 : Option Addr) (c0 : Nat) (xs : List Int) (w : World) (hr : Kd.C (Kd.int .u8) w A0 (xs.length + 4) (sealL xs)) (hb : ∀ x ∈ xs, 0 ≤ x ∧ x < 256) (hc0 : xs.length + 4 ≤ c0) (h0 : 0 < xs.length) (h1 : xs.length ≤ 3000) :
    Calls Try.prog 39 #[.slice A0 (xs.length + 4) c0] w fun e w' => ∃ v, e = .returned (.tuple #[v, .int .i64 0]) ∧ Kd.R (Kd.int .u8) 5 w' w.heap.size (fun _ => True) v xs ∧ Below w.heap.size w w' := by
  have HR := Lib.hid hr
  have HB := Lib.hid hb
  have HG := Lib.hid (get_seal xs h1)
  obtain ⟨O, hO⟩ : ∃ O, ofB xs = O := ⟨_, rfl⟩
  have hOr := ofB_range xs
  rw [hO] at hOr
  have hcv : IntKind.u32.wrap O = O := by rw [IntKind.wrap_u32]; omega
  rw [hO] at HG
  have HC : Hid (Kd.C (Kd.int .u8) w A0 xs.length xs) := Lib.hid (by
    have h := Kd.C_take (m := xs.length) (xs := sealL xs) (by rw [sealL_len]; exact hr) (by rw [sealL_len]; omega)
    have e : (sealL xs).take xs.length = xs := by unfold sealL; exact List.take_left' rfl
    rw [e] at h; exact h)
  have hmk := print_make (P := Try.prog) 33 5 .u8 1 Try.underlying33 (by kernel_rfl) (by decide) xs.length (by omega)
  replace hO := Lib.hid hO
  clear hr hb
  go_enter Try.func39, Try.ntmps39
  go_wp2_with fail
  refine (getC A0 c0 (xs.length + 4) (sealL xs) _ 4 O 0 _ (sealL_len xs) (by rw [sealL_len]; exact HR.out) (by rw [sealL_len]; exact hc0) HG.out).mono ?_
  rintro e w1 ⟨rfl, hd⟩
  replace hd := Lib.hid hd.below
  go_wp2_with fail
  have hof := of_any A0 c0 xs w1 (Kd.C_below HC.out hd.out) HB.out (by omega) h1
  rw [hO.out] at hof
  refine hof.mono ?_
  rintro e w2 ⟨rfl, hd2⟩
  replace hd := Lib.hid (below_step hd.out hd2.below)
  clear hd2 hof
  have hd3 := Lib.hid (below_alloc hd.out (.cells (madeCells #[.int .u8 0] xs.length) 5))
  obtain ⟨w4, hcp, hB4, hb4⟩ := copy_in2 (w2.alloc (.cells (madeCells #[.int .u8 0] xs.length) 5)) 3 w2.heap.size 0 xs.length xs.length A0 (xs.length + 4) c0 (List.replicate xs.length 0) xs (bk_made w2 _) (Kd.C_below HC.out hd3.out) h0 ((Nat.min_eq_right (by omega)).symm) (by simp) hd.out.size hd3.out
  replace hB4 := Lib.hid hB4
  replace hb4 := Lib.hid hb4
  go_wp2_with fail
  go_ret2
  have hB5 : Bk w4 w2.heap.size xs := by
    have := hB4.out
    rw [splice_fill xs _ (Nat.le_refl _), Nat.sub_self, List.replicate_zero, List.append_nil] at this
    exact this
  exact ⟨_, rfl, Kd.R_mono (R_of_bk hB5 hd.out.size (by omega)) (fun _ _ => trivial), hb4.out⟩
end Go.Proofs.Ytpbijdalfeaheaa.Tf

/- field.Take: the numbers that were laid. -/
namespace Go.Proofs.Ytpbijdalfeaheaa.Tf
open Go.RowKit Go.Proofs.YtpbijdalfeaheaaW.PrintWords Go.Proofs.YtpbijdalfeaheaaW.PrintLast Go.Proofs.YtpbijdalfeaheaaW.PrintMore
set_option linter.unusedVariables false
set_option linter.unusedSimpArgs false
theorem layL_drop (size : Nat) (l : List Int) (k : Nat) : (layL size l).drop (size * k) = layL size (l.drop k) := by
  by_cases hk : k ≤ l.length
  · have h : layL size l = layL size (l.take k) ++ layL size (l.drop k) := by rw [← layL_append, List.take_append_drop]
    have h2 : (layL size (l.take k)).length = size * k := by rw [layL_len, List.length_take, Nat.min_eq_left hk]
    rw [h, List.drop_left' h2]
  · rw [List.drop_of_length_le (by rw [layL_len]; exact Nat.mul_le_mul_left _ (by omega)), List.drop_of_length_le (by omega)]; rfl
theorem layL_cons (size : Nat) (n : Int) (l : List Int) : layL size (n :: l) = putL n size ++ layL size l := rfl
theorem info_u64 : (Try.prog.info? 23).map (fun i => (i.zero, i.size, i.bytes)) = some (some (.int .u64 0), 1, 8) := by kernel_rfl
theorem getP (A0 : Option Addr) (c0 size : Nat) (n : Int) (w : World) (h0 : 0 ≤ n) (h8 : size ≤ 8) (hn : n < 256 ^ size) (hr : Kd.C (Kd.int .u8) w A0 size (putL n size)) (hc : size ≤ c0) :
    Calls Try.prog 55 #[.slice A0 size c0] w fun e w' => e = .returned (.int .u64 n) ∧ Drawn0 w w' := by
  have h := P.field_get.calls 9 A0 c0 (putL n size) n w (by rw [putL_len]; exact hr) (by rw [putL_len]; exact hc) (get_put n h0 size h8 hn)
  rw [putL_len] at h
  exact h
set_option maxHeartbeats 4000000 in
set_option maxRecDepth 100000 in
theorem take_any (size N : Nat) (A0 : Option Addr) (c0 : Nat) (l : List Int) (w : World) (h1 : 1 ≤ size) (h8 : size ≤ 8) (hN : size * l.length = N) (hl : N ≤ 4096) (hr : Kd.C (Kd.int .u8) w A0 N (layL size l)) (hc0 : N ≤ c0) (hn : ∀ n ∈ l, 0 ≤ n ∧ n < 256 ^ size) :
    Calls Try.prog 36 #[.int .i64 size, .slice A0 N c0] w fun e w' => ∃ v, e = .returned (.tuple #[v, .int .i64 0]) ∧ Kd.R (Kd.int .u64) 23 w' w.heap.size (fun _ => True) v l ∧ Below w.heap.size w w' := by
  have HR := Lib.hid hr
  have HN := Lib.hid hn
  clear hr hn
  have c1 : decide ((size : Int) < 1) = false := decide_eq_false (by omega)
  have c2 : decide ((size : Int) > 8) = false := decide_eq_false (by omega)
  have c3 : decide ((N : Int) > 4096) = false := decide_eq_false (by omega)
  have hmod : ((N : Int) % (size : Int) != 0) = false := by
    rw [bne_eq_false_iff_eq, ← hN]
    simp
  replace hN := Lib.hid hN
  go_enter Try.func36, Try.ntmps36
  go_wp2_with fail
  clear c1 c2 c3 hmod
  obtain ⟨i0, hi0, hz⟩ := Option.map_eq_some_iff.1 info_u8
  simp only [Prod.mk.injEq] at hz
  have hi0' := Lib.hid hi0
  have hz' := Lib.hid hz.2.1
  clear hz hi0
  go_loopg [6, 7] l.length (fun q v6 v7 wr => ∃ (k m c : Nat) (A : Option Addr), k + q = l.length ∧ v7 = .slice A m c ∧ Hid (m = size * (l.length - k)) ∧ m ≤ c ∧ Hid (Kd.C (Kd.int .u8) w A m (layL size (l.drop k))) ∧ Hid (Kd.R (Kd.int .u64) 23 wr w.heap.size (fun _ => True) v6 (l.take k)) ∧ Hid (Below w.heap.size w wr))
  case atStart => exact ⟨0, N, c0, A0, by omega, rfl, Lib.hid hN.out.symm, hc0, HR, Lib.hid (Kd.R_nil _ _ _ _ _), Lib.hid (Below.refl _ _)⟩
  case round =>
    obtain ⟨k, m, c, A, hk, rfl, hm, hmc, hC, hR, hB⟩ := hrel
    cases gk with
    | zero =>
      obtain rfl : k = l.length := by omega
      have m0 : m = 0 := by have := hm.out; rw [Nat.sub_self, Nat.mul_zero] at this; exact this
      subst m0
      go_wp2_with fail
      go_ret2
      exact ⟨_, rfl, by have := hR.out; rw [List.take_length] at this; exact this, hB.out⟩
    | succ q =>
      have hkl : k < l.length := by omega
      have hms : m = size + size * (l.length - (k + 1)) := by
        rw [hm.out, Nat.add_comm, ← Nat.mul_succ]; congr 1; omega
      obtain ⟨M, hM⟩ : ∃ M, size * (l.length - (k + 1)) = M := ⟨_, rfl⟩
      rw [hM] at hms
      subst hms
      obtain ⟨n, hne⟩ : ∃ n, l[k] = n := ⟨_, rfl⟩
      have hnn := Lib.hid (HN.out n (by rw [← hne]; exact List.getElem_mem hkl))
      have hdr : layL size (l.drop k) = putL n size ++ layL size (l.drop (k + 1)) := by rw [List.drop_eq_getElem_cons hkl, hne, layL_cons]
      have hl2 : (layL size (l.drop (k + 1))).length = M := by rw [layL_len, List.length_drop, hM]
      have hl3 : (putL n size ++ layL size (l.drop (k + 1))).length = size + M := by rw [List.length_append, putL_len, hl2]
      have hC0 := hC.out
      rw [hdr, ← hl3] at hC0
      have hC1 := Kd.C_take (m := size) hC0 (by rw [hl3]; omega)
      have hC2 := Kd.C_drop (m := size) (c := c) hC0 (by rw [hl3]; omega) (by rw [hl3]; omega)
      rw [List.take_left' (putL_len n size), putL_len] at hC1
      rw [List.drop_left' (putL_len n size), hl2] at hC2
      replace hC1 := Lib.hid hC1
      have hto := cut_to (P := Try.prog) 33 5 .i64 Try.underlying33 hi0'.out A (size + M) c (size : Int) (by omega) (by omega) hmc
      have hfrom := cut_from (P := Try.prog) 33 5 .i64 Try.underlying33 hi0'.out 1 hz'.out A (size + M) c (size : Int) (by omega) (by omega)
      rw [Int.toNat_natCast] at hto hfrom
      rw [Nat.add_sub_cancel_left] at hfrom
      have hsz1 : (Kd.int .u8).sz = 1 := rfl
      rw [hsz1] at hC2
      obtain ⟨A2, hA2⟩ : ∃ A2 : Option Addr, (if c = size then A else A.map (·.add (size * 1))) = A2 := ⟨_, rfl⟩
      rw [hA2] at hfrom hC2
      replace hC2 := Lib.hid hC2
      clear hA2 hsz1
      have d1 : decide (((size + M : Nat) : Int) > 0) = true := decide_eq_true (by omega)
      clear hC0 hC hdr hl3
      replace hne := Lib.hid hne
      go_wp2_with fail
      refine (getP A c size n _ hnn.out.1 h8 hnn.out.2 (Kd.C_below hC1.out hB.out) (by omega)).mono ?_
      rintro e w1 ⟨rfl, hd⟩
      have hB1 := Lib.hid (below_step hB.out hd.below)
      have hR1 := Lib.hid (Kd.R_below hR.out hd.below)
      have hB2 := Lib.hid (below_alloc (below_step hB.out hd.below) (.cells #[.int .u64 n] 23))
      have hR2 := Lib.hid (Kd.R_alloc (Kd.R_below hR.out hd.below) (.cells #[.int .u64 n] 23))
      have hle : Hid ((l.take k).length < 4097) := Lib.hid (by rw [List.length_take]; have := Nat.le_trans (Nat.le_mul_of_pos_left l.length (show 0 < size by omega)) (by rw [hN.out]; exact hl); omega)
      clear hd
      go_wp2_with (first | ((with_reducible refine gate_builtin (b := .append) (xs := #[.tmp 33, .tmp 38]) rfl ?_); at_builtin; refine Kd.R_append (Kd.int .u64) (w0 := w) w.heap.size rfl (.tmp 33) (.tmp 38) 105 23 (.int .u64 0) 8 rfl Try.underlying105 info_u64 rfl (by decide) (by omega) u6 (l.take k) n [.int .u64 n] (fun _ => True) (fun _ => False) rfl rfl rfl (fun _ hk => hk.elim) (fun _ _ => trivial) ?aO ?aB ?aS ?aL ?_; (case aO => (with_reducible repeat (first | apply Kd.R_alloc | apply Kd.R_drewN | apply Kd.R_drew)); exact hR1.out); (case aB => (repeat (first | (with_reducible first | exact hB1.out | apply below_alloc | apply pw_below_drewN | apply below_drew1) | exact hB1.out))); (case aS => exact below_size (by repeat (first | (with_reducible first | exact hB1.out | apply below_alloc | apply pw_below_drewN | apply below_drew1) | exact hB1.out))); (case aL => have := hle.out; omega); intro v3 w3 ho3 hb3 hg3 hat3))
      replace ho3 := Lib.hid (show Kd.R (Kd.int .u64) 23 w3 w.heap.size (fun _ => True) v3 (l.take (k + 1)) from by rw [List.take_succ_eq_append_getElem hkl, hne.out]; exact ho3)
      replace hb3 := Lib.hid hb3
      clear hg3 hat3 hR1 hR2 hB1 hB2 hle
      go_wp2_with fail
      go_roundg q
      case measure => omega
      case rel => exact ⟨k + 1, M, c - size, A2, by omega, rfl, Lib.hid hM.symm, by omega, hC2, ho3, hb3⟩
end Go.Proofs.Ytpbijdalfeaheaa.Tf

/- disk: a disk's state, and where it lies. -/
namespace Go.Proofs.Ytpbijdalfeaheaa.Tf
open Go.RowKit Go.Proofs.YtpbijdalfeaheaaW.PrintWords Go.Proofs.YtpbijdalfeaheaaW.PrintLast Go.Proofs.YtpbijdalfeaheaaW.PrintMore
set_option linter.unusedVariables false
set_option linter.unusedSimpArgs false
/-- What was there is as it was, but for the blocks of S. -/
structure Fr (S : Nat → Prop) (w w' : World) : Prop where
  os : w'.os = w.os
  tape : w'.tape = w.tape
  output : w'.output = w.output
  size : w.heap.size ≤ w'.heap.size
  block : ∀ k, k < w.heap.size → ¬ S k → w'.heap[k]? = w.heap[k]?
namespace Fr
variable {S S' : Nat → Prop} {w w1 w2 : World}
theorem refl (S : Nat → Prop) (w : World) : Fr S w w := ⟨rfl, rfl, rfl, Nat.le_refl _, fun _ _ _ => rfl⟩
theorem of_below (h : Below w.heap.size w w1) (S : Nat → Prop) : Fr S w w1 := ⟨h.os, h.tape, h.output, h.size, fun k hk _ => h.block k hk⟩
theorem mono (h : Fr S w w1) (hs : ∀ k, S k → S' k) : Fr S' w w1 := ⟨h.os, h.tape, h.output, h.size, fun k hk hn => h.block k hk (fun x => hn (hs k x))⟩
theorem then_ (h : Fr S w w1) (k : Fr S' w1 w2) (hs : ∀ k, S' k → S k ∨ w.heap.size ≤ k) : Fr S w w2 :=
  ⟨k.os.trans h.os, k.tape.trans h.tape, k.output.trans h.output, Nat.le_trans h.size k.size, fun i hi hn => (k.block i (Nat.lt_of_lt_of_le hi h.size) (fun h2 => (hs i h2).elim hn (fun h3 => by omega))).trans (h.block i hi hn)⟩
theorem trans (h : Fr S w w1) (k : Fr S w1 w2) : Fr S w w2 := h.then_ k (fun _ => .inl)
theorem below (h : Fr S w w1) (k : Below w1.heap.size w1 w2) : Fr S w w2 := h.then_ (of_below k (fun _ => False)) (fun _ x => x.elim)
theorem grown {row : Option Nat} (h : Fr S w w1) (hg : w1.grownBy w2 row) (hr : ∀ k, row = some k → S k ∨ w.heap.size ≤ k) : Fr S w w2 :=
  h.then_ (S' := fun k => row = some k) ⟨hg.os, hg.tape, hg.output, hg.size, fun i hi hn => hg.block i hi (fun he => hn he.symm)⟩ hr
theorem kept (h : Fr S w w1) : Kept w w1 S := ⟨h.size, h.block⟩
theorem drew (h : Fr S w w1) : Fr S w w1.drew := ⟨h.os, h.tape, h.output, h.size, h.block⟩
theorem drewN (h : Fr S w w1) (n : Nat) : Fr S w (w1.drewN n) := ⟨h.os, h.tape, h.output, h.size, h.block⟩
theorem alloc (h : Fr S w w1) (o : Obj) : Fr S w (w1.alloc o) := h.below (below_alloc (Below.refl _ _) o)
theorem setCell (h : Fr S w w1) {p : Addr} (hp : S p.block ∨ w.heap.size ≤ p.block) (u : Value) : Fr S w (w1.setCell p u) :=
  h.then_ (S' := fun k => k = p.block) ⟨rfl, rfl, rfl, by simp [World.setCell], fun i _ hn => Below.heap_setCell w1 p u i hn⟩ (fun k hk => by rw [hk]; exact hp)
theorem setRow (h : Fr S w w1) {g : Nat} (hp : S g ∨ w.heap.size ≤ g) (cs : Array Value) : Fr S w (w1.setRow g cs) :=
  h.then_ (S' := fun k => k = g) ⟨rfl, rfl, rfl, by simp, fun i _ hn => setRow_other w1 g i cs hn⟩ (fun k hk => by rw [hk]; exact hp)
theorem blk (h : Fr S w w1) {g : Nat} {o : Obj} (hb : w.heap[g]? = some o) (hn : ¬ S g) : w1.heap[g]? = some o := (h.block g (blk_lt hb) hn).trans hb
theorem to_below (h : Fr S w w1) {B : Nat} (hB : B ≤ w.heap.size) (hs : ∀ k, S k → B ≤ k) : Below B w w1 :=
  ⟨h.os, h.tape, h.output, h.size, fun k hk => h.block k (by omega) (fun x => by have := hs k x; omega)⟩
theorem put {g : Nat} (h : Fr S w w1) (hg : S g) (i : Nat) (u : Value) : Fr S w (w1.setCell ⟨g, i, none⟩ u) := h.setCell (p := ⟨g, i, none⟩) (.inl hg) u
theorem put1 {g : Nat} (h : Fr (fun x => x = g) w w1) (i : Nat) (u : Value) : Fr (fun x => x = g) w (w1.setCell ⟨g, i, none⟩ u) := h.put rfl i u
end Fr
/-- A kind of elements that are told by no world: their cells, one behind the other. -/
def flat {α : Type} (n : Nat) (enc : α → List Value) (h1 : ∀ x, ∀ u ∈ enc x, u.oneCell' = true) : Kd α where
  sz := n
  E := []
  K := fun _ x cs => cs = enc x ∧ (enc x).length = n
  M := fun _ _ _ x cs => cs = enc x ∧ (enc x).length = n
  K_len := fun h => by rw [h.1]; exact h.2
  K_one := fun h u hu => by rw [h.1] at hu; exact h1 _ u hu
  K_below := fun _ h => h
  K_of_M := fun h => h
  M_mono := fun _ h => h
  M_bound := fun h => h
  M_move := fun _ h => h
  M_lower := fun _ h => h
/-- A sector's cells. -/
def secC (s : List Int) : List Value := nums .u8 s ++ [.int .u16 0]
theorem secC_one (s : List Int) : ∀ u ∈ secC s, u.oneCell' = true := by
  intro u hu
  rcases List.mem_append.1 hu with h | h
  · exact one_nums s u h
  · rw [List.mem_singleton.1 h]; rfl
theorem secC_len (s : List Int) : (secC s).length = s.length + 1 := by simp [secC, nums]
/-- A write that is not safe: where, what was there, what is. -/
def waitC (x : Nat × List Int × List Int) : List Value := .int .i64 (x.1 : Int) :: (secC x.2.1 ++ secC x.2.2)
def WK : Kd (Nat × List Int × List Int) := flat 131 waitC (fun x u hu => by
  rcases List.mem_cons.1 hu with h | h
  · rw [h]; rfl
  · rcases List.mem_append.1 h with h | h <;> exact secC_one _ u h)
/-- A disk: its sectors' bytes, the writes that are not safe, whether the power is off, and behind how many operations it fails. -/
structure Dk where
  secs : List (List Int)
  waits : List (Nat × List Int × List Int)
  dead : Bool
  fuse : Int
def discs (gs n : Nat) (vw : Value) (dead : Bool) (fuse done : Int) : Array Value := #[.slice (some ⟨gs, 0, none⟩) n n, vw, .bool dead, .int .i64 fuse, .int .i64 done]
structure DiskAt (W : World) (B gd gs : Nat) (D : Dk) : Prop where
  hd : ∃ (vw : Value) (done : Int), W.heap[gd]? = some (.cells (discs gs 88 vw D.dead D.fuse done) 92 (0, 0)) ∧ Kd.R WK 97 W B (fun k => k ≠ gd ∧ k ≠ gs) vw D.waits
  hs : W.heap[gs]? = some (.cells (D.secs.flatMap secC).toArray 95 (0, 0))
  len : ∀ s ∈ D.secs, s.length = 64
  num : D.secs.length = 88
  ne : gd ≠ gs
  lt : gd < B ∧ gs < B
  fuse : -1 ≤ D.fuse ∧ D.fuse ≤ 9223372036854775807
  wn : D.waits = [] → W.cell? ⟨gd, 1, none⟩ = some (.slice none 0 0)
/-- What a disk's operations may change. -/
def DS (B gd gs : Nat) (k : Nat) : Prop := k = gd ∨ k = gs ∨ B ≤ k
theorem DiskAt.step {W W1 : World} {B gd gs : Nat} {D : Dk} (h : DiskAt W B gd gs D) {S : Nat → Prop} (hk : Kept W W1 S) (h1 : ¬ S gd) (h2 : ¬ S gs) (h3 : ∀ k, B ≤ k → ¬ S k) : DiskAt W1 B gd gs D := by
  obtain ⟨vw, done, hb, hR⟩ := h.hd
  refine ⟨⟨vw, done, blk_kept hb hk h1, ?_⟩, blk_kept h.hs hk h2, h.len, h.num, h.ne, h.lt, h.fuse, fun e => cell_kept (h.wn e) hk h1⟩
  exact Kd.R_mono (Kd.R_kept (Kd.R_bound hR) hk (fun k hk => h3 k hk.2.1)) (fun k hk => hk.1)
theorem DiskAt.below {W W1 : World} {B gd gs : Nat} {D : Dk} (h : DiskAt W B gd gs D) (hb : Below W.heap.size W W1) : DiskAt W1 B gd gs D :=
  h.step (Kept.of_below hb (fun _ => False)) (fun x => x) (fun x => x) (fun _ _ x => x)
/-- The disk's struct is written: its writes are others. -/
theorem DiskAt.setD {W W1 : World} {B gd gs : Nat} {D D1 : Dk} {vw : Value} {done : Int} (h : DiskAt W B gd gs D) (hk : Kept W W1 (· = gd)) (hb : W1.heap[gd]? = some (.cells (discs gs 88 vw D1.dead D1.fuse done) 92 (0, 0)))
    (hR : Kd.R WK 97 W B (fun k => k ≠ gd ∧ k ≠ gs) vw D1.waits) (hs : D1.secs = D.secs) (hf : -1 ≤ D1.fuse ∧ D1.fuse ≤ 9223372036854775807) (hwn : D1.waits = [] → vw = .slice none 0 0) : DiskAt W1 B gd gs D1 := by
  refine ⟨⟨vw, done, hb, ?_⟩, ?_, ?_, ?_, h.ne, h.lt, hf, fun e => by have := blk_cell hb 1; rw [hwn e] at this; exact this⟩
  · exact Kd.R_kept hR hk (fun k hk => hk.1)
  · rw [hs]; exact blk_kept h.hs hk (fun e => h.ne e.symm)
  · rw [hs]; exact h.len
  · rw [hs]; exact h.num
theorem DiskAt.vnil {W : World} {B gd gs : Nat} {D : Dk} (h : DiskAt W B gd gs D) {vw : Value} {done : Int} (hb : W.heap[gd]? = some (.cells (discs gs 88 vw D.dead D.fuse done) 92 (0, 0))) : D.waits = [] → vw = .slice none 0 0 := fun e => by
  have h1 := h.wn e
  have h2 : W.cell? ⟨gd, 1, none⟩ = some vw := blk_cell hb 1
  rw [h1] at h2
  injection h2 with h2
  exact h2.symm
/-- One operation more. -/
def Dk.tick (D : Dk) : Dk := { D with fuse := if 0 < D.fuse then D.fuse - 1 else D.fuse }
def Dk.off (D : Dk) : Dk := { D with dead := true }
/-- Whether an operation is done. -/
def Dk.live (D : Dk) : Bool := !D.dead && D.fuse != 0
set_option maxHeartbeats 4000000 in
set_option maxRecDepth 100000 in
theorem power_ok (B gd gs : Nat) (D : Dk) (w : World) (h : DiskAt w B gd gs D) (hl : D.live = true) :
    Calls Try.prog 60 #[.pointer (some ⟨gd, 0, none⟩)] w fun e w' => e = .returned (.int .i64 0) ∧ DiskAt w' B gd gs D.tick ∧ Fr (· = gd) w w' := by
  obtain ⟨secs, waits, dead, fuse⟩ := D
  have hf := h.fuse
  simp only [Dk.live, Bool.and_eq_true, bne_iff_ne, ne_eq, Bool.not_eq_true'] at hl hf
  obtain ⟨rfl, hf0⟩ := hl
  obtain ⟨vw, done, hb, hR⟩ := h.hd
  have hne : (fuse == 0) = false := by simpa using hf0
  have x2 := blk_cell hb 2
  have x3 := blk_cell hb 3
  have x4 := blk_cell hb 4
  have f3 := blk_frozen hb 3
  have f4 := blk_frozen hb 4
  replace x2 : w.cell? ⟨gd, 2, none⟩ = some (.bool false) := x2
  replace x3 : w.cell? ⟨gd, 3, none⟩ = some (.int .i64 fuse) := x3
  replace x4 : w.cell? ⟨gd, 4, none⟩ = some (.int .i64 done) := x4
  have Hb := Lib.hid hb
  have H := Lib.hid h
  have HR := Lib.hid hR
  clear hb h hR
  by_cases hp : 0 < fuse
  · go_enter Try.func60, Try.ntmps60
    go_wp2_with fail
    go_ret
    have b1 := blk_put (blk_put Hb.out 3 (.int .i64 (fuse - 1)) (cs' := discs gs 88 vw false (fuse - 1) done) rfl) 4 (.int .i64 (wrap64 (done + 1))) (cs' := discs gs 88 vw false (fuse - 1) (wrap64 (done + 1))) rfl
    have F : Fr (· = gd) w ((w.setCell ⟨gd, 3, none⟩ (.int .i64 (fuse - 1))).setCell ⟨gd, 4, none⟩ (.int .i64 (wrap64 (done + 1)))) := ((Fr.refl _ _).put1 _ _).put1 _ _
    have e1 : (Dk.mk secs waits false fuse).tick = Dk.mk secs waits false (fuse - 1) := by simp [Dk.tick, hp]
    rw [e1]
    exact ⟨rfl, H.out.setD F.kept b1 HR.out rfl (show -1 ≤ fuse - 1 ∧ fuse - 1 ≤ _ by omega) (H.out.vnil Hb.out), F⟩
  · go_enter Try.func60, Try.ntmps60
    go_wp2_with fail
    go_ret
    have b1 := blk_put Hb.out 4 (.int .i64 (wrap64 (done + 1))) (cs' := discs gs 88 vw false fuse (wrap64 (done + 1))) rfl
    have F : Fr (· = gd) w (w.setCell ⟨gd, 4, none⟩ (.int .i64 (wrap64 (done + 1)))) := (Fr.refl _ _).put1 _ _
    have e1 : (Dk.mk secs waits false fuse).tick = Dk.mk secs waits false fuse := by simp [Dk.tick]; omega
    rw [e1]
    exact ⟨rfl, H.out.setD F.kept b1 HR.out rfl hf (H.out.vnil Hb.out), F⟩
set_option maxHeartbeats 4000000 in
set_option maxRecDepth 100000 in
theorem power_no (B gd gs : Nat) (D : Dk) (w : World) (h : DiskAt w B gd gs D) (hl : D.live = false) :
    Calls Try.prog 60 #[.pointer (some ⟨gd, 0, none⟩)] w fun e w' => e = .returned (.int .i64 6) ∧ DiskAt w' B gd gs D.off ∧ Fr (· = gd) w w' := by
  obtain ⟨secs, waits, dead, fuse⟩ := D
  have hf := h.fuse
  obtain ⟨vw, done, hb, hR⟩ := h.hd
  have x2 := blk_cell hb 2
  have x3 := blk_cell hb 3
  have f2 := blk_frozen hb 2
  replace x2 : w.cell? ⟨gd, 2, none⟩ = some (.bool dead) := x2
  replace x3 : w.cell? ⟨gd, 3, none⟩ = some (.int .i64 fuse) := x3
  have Hb := Lib.hid hb
  have H := Lib.hid h
  have HR := Lib.hid hR
  clear hb h hR
  cases dead with
  | true =>
    clear hl hf
    go_enter Try.func60, Try.ntmps60
    go_wp2_with fail
    go_ret
    exact ⟨rfl, H.out, Fr.refl _ _⟩
  | false =>
    obtain rfl : fuse = 0 := by simpa [Dk.live] using hl
    clear hl
    go_enter Try.func60, Try.ntmps60
    go_wp2_with fail
    go_ret
    have b1 := blk_put Hb.out 2 (.bool true) (cs' := discs gs 88 vw true 0 done) rfl
    have F : Fr (· = gd) w (w.setCell ⟨gd, 2, none⟩ (.bool true)) := (Fr.refl _ _).put1 _ _
    exact ⟨rfl, H.out.setD (D1 := Dk.mk secs waits true 0) F.kept b1 HR.out rfl (by simp) (H.out.vnil Hb.out), F⟩
theorem len_any (B gd gs : Nat) (D : Dk) (w : World) (h : DiskAt w B gd gs D) :
    Calls Try.prog 19 #[.pointer (some ⟨gd, 0, none⟩)] w fun e w' => e = .returned (.int .i64 88) ∧ w = w' := by
  obtain ⟨vw, done, hb, hR⟩ := h.hd
  have x0 := blk_cell hb 0
  replace x0 : w.cell? ⟨gd, 0, none⟩ = some (.slice (some ⟨gs, 0, none⟩) 88 88) := x0
  clear hb hR h
  go_enter Try.func19, Try.ntmps19
  go_wp2_with fail
  go_ret
  exact ⟨rfl, rfl⟩
theorem there_yes (B gd gs : Nat) (D : Dk) (i : Int) (w : World) (h : DiskAt w B gd gs D) (h0 : 0 ≤ i) (h1 : i < 88) :
    Calls Try.prog 53 #[.pointer (some ⟨gd, 0, none⟩), .int .i64 i] w fun e w' => e = .returned (.bool true) ∧ w = w' := by
  have H := Lib.hid h
  clear h
  go_enter Try.func53, Try.ntmps53
  go_wp2_with fail
  refine (len_any B gd gs D w H.out).mono ?_
  rintro e w' ⟨rfl, rfl⟩
  go_wp2_with fail
  go_ret
  exact ⟨rfl, rfl⟩
theorem flush_ok (B gd gs : Nat) (D : Dk) (w : World) (h : DiskAt w B gd gs D) (hl : D.live = true) :
    Calls Try.prog 46 #[.pointer (some ⟨gd, 0, none⟩)] w fun e w' => e = .returned (.int .i64 0) ∧ DiskAt w' B gd gs { D.tick with waits := [] } ∧ Fr (· = gd) w w' := by
  have H := Lib.hid h
  clear h
  go_enter Try.func46, Try.ntmps46
  go_wp2_with fail
  refine (power_ok B gd gs D w H.out hl).mono ?_
  rintro e w1 ⟨rfl, h1, F1⟩
  obtain ⟨vw, done, hb, hR⟩ := h1.hd
  have x1 := blk_cell hb 1
  replace x1 : w1.cell? ⟨gd, 1, none⟩ = some vw := x1
  have f1 := blk_frozen hb 1
  have HF := Lib.hid F1
  have Hb := Lib.hid hb
  have H1 := Lib.hid h1
  clear hb hR F1 h1
  go_wp2_with fail
  go_ret
  have F : Fr (· = gd) w1 (w1.setCell ⟨gd, 1, none⟩ (.slice none 0 0)) := (Fr.refl _ _).put1 _ _
  refine ⟨rfl, H1.out.setD (D1 := { D.tick with waits := [] }) F.kept (blk_put Hb.out 1 (.slice none 0 0) rfl) (Kd.R_nil _ _ _ _ _) rfl H1.out.fuse (fun _ => rfl), HF.out.trans F⟩
theorem flush_no (B gd gs : Nat) (D : Dk) (w : World) (h : DiskAt w B gd gs D) (hl : D.live = false) :
    Calls Try.prog 46 #[.pointer (some ⟨gd, 0, none⟩)] w fun e w' => e = .returned (.int .i64 6) ∧ DiskAt w' B gd gs D.off ∧ Fr (· = gd) w w' := by
  have H := Lib.hid h
  clear h
  go_enter Try.func46, Try.ntmps46
  go_wp2_with fail
  refine (power_no B gd gs D w H.out hl).mono ?_
  rintro e w1 ⟨rfl, h1, F1⟩
  have HF := Lib.hid F1
  have H1 := Lib.hid h1
  clear F1 h1
  go_wp2_with fail
  go_ret
  exact ⟨rfl, H1.out, HF.out⟩
theorem cut_any (B gd gs : Nat) (D : Dk) (cut : Int) (w : World) (h : DiskAt w B gd gs D) (hd : D.dead = false) (hc : cut ≤ 9223372036854775807) :
    Calls Try.prog 11 #[.pointer (some ⟨gd, 0, none⟩), .int .i64 cut] w fun e w' => e = .returned (.tuple #[]) ∧ DiskAt w' B gd gs { D with fuse := max cut (-1) } ∧ Fr (· = gd) w w' := by
  obtain ⟨secs, waits, dead, fuse⟩ := D
  subst hd
  obtain ⟨vw, done, hb, hR⟩ := h.hd
  have x2 := blk_cell hb 2
  have x3 := blk_cell hb 3
  have f3 := blk_frozen hb 3
  replace x2 : w.cell? ⟨gd, 2, none⟩ = some (.bool false) := x2
  replace x3 : w.cell? ⟨gd, 3, none⟩ = some (.int .i64 fuse) := x3
  have Hb := Lib.hid hb
  have H := Lib.hid h
  have HR := Lib.hid hR
  have hc1 := Lib.hid hc
  clear hb h hR hc
  go_enter Try.func11, Try.ntmps11
  go_wp2_with fail
  · go_end0
    have hh : cut < -1 := by assumption
    have e1 : max cut (-1) = -1 := by omega
    rw [e1]
    have F : Fr (· = gd) w (w.setCell ⟨gd, 3, none⟩ (.int .i64 (-1))) := (Fr.refl _ _).put1 _ _
    exact ⟨rfl, H.out.setD (D1 := Dk.mk secs waits false (-1)) F.kept (blk_put Hb.out 3 (.int .i64 (-1)) rfl) HR.out rfl (by simp) (H.out.vnil Hb.out), F⟩
  · go_end0
    have hh : -1 ≤ cut := by assumption
    have e1 : max cut (-1) = cut := by omega
    rw [e1]
    have F : Fr (· = gd) w (w.setCell ⟨gd, 3, none⟩ (.int .i64 cut)) := (Fr.refl _ _).put1 _ _
    exact ⟨rfl, H.out.setD (D1 := Dk.mk secs waits false cut) F.kept (blk_put Hb.out 3 (.int .i64 cut) rfl) HR.out rfl ⟨hh, hc1.out⟩ (H.out.vnil Hb.out), F⟩
end Go.Proofs.Ytpbijdalfeaheaa.Tf

/- slices.Clone, of rows whose elements lead nowhere. -/
namespace Go.Proofs.Ytpbijdalfeaheaa.Tf
open Go.RowKit Go.Proofs.YtpbijdalfeaheaaW.PrintWords Go.Proofs.YtpbijdalfeaheaaW.PrintLast Go.Proofs.YtpbijdalfeaheaaW.PrintMore
set_option linter.unusedVariables false
set_option linter.unusedSimpArgs false
/-- A kind whose elements are told by no world. -/
structure Plain {α : Type} (d : Kd α) (enc : α → List Value) : Prop where
  K : ∀ w x cs, d.K w x cs ↔ cs = enc x ∧ (enc x).length = d.sz
  M : ∀ w base ok x cs, d.M w base ok x cs ↔ cs = enc x ∧ (enc x).length = d.sz
theorem plain_int (k : IntKind) : Plain (Kd.int k) (fun n => [.int k n]) := ⟨fun _ _ _ => ⟨fun h => ⟨h, rfl⟩, fun h => h.1⟩, fun _ _ _ _ _ => ⟨fun h => ⟨h, rfl⟩, fun h => h.1⟩⟩
theorem plain_flat {α : Type} (n : Nat) (enc : α → List Value) (h1) : Plain (flat n enc h1) enc := ⟨fun _ _ _ => Iff.rfl, fun _ _ _ _ _ => Iff.rfl⟩
section
variable {α : Type} {d : Kd α} {enc : α → List Value}
/-- What is read is appended to an own row, as an equation on the run. -/
theorem Plain.append (hp : Plain d enc) (W : World) (base : Nat) (t ty e : TypeId) (z : Value) (bytes : Nat) (ht : Try.prog.underlying t = some (.slice e)) (hinfo : (Try.prog.info? e).map (fun i => (i.zero, i.size, i.bytes)) = some (some z, d.sz, bytes)) (hz : z.cells.size = d.sz) (hs0 : 0 < d.sz)
    (v : Value) (xs ys : List α) (hR : d.R e W base (fun _ => True) v xs) (A : Option Addr) (m c : Nat) (hm : 0 < m) (hC : d.C W A m ys) (hl : (xs.length + m) * bytes ≤ 140737488355328) (hl2 : xs.length + m ≤ maxLen) (hb : base ≤ W.heap.size) :
    ∃ v1 w1, (Builtin.append_ #[t, t] ty #[v, .slice A m c]).run Try.prog W = .ok v1 w1 ∧ d.R e w1 base (fun _ => True) v1 (xs ++ ys) ∧ W.grownBy w1 v.ownBlock := by
  obtain ⟨i0, hi, hzz⟩ := Option.map_eq_some_iff.1 hinfo
  simp only [Prod.mk.injEq] at hzz
  obtain ⟨hz0, hz1, hz2⟩ := hzz
  obtain ⟨ad, rfl, _⟩ := hC.2.2 hm
  obtain ⟨_, inner, hown, hr⟩ := hR
  obtain ⟨inn, hri, hci⟩ := ReadsRow.inner_ hC
  have hm1 : ys.length = m := hC.1
  obtain ⟨v1, w1, h1, h2, h3, _⟩ := run_append_own (P := Try.prog) W base t ty e i0 z d.sz bytes ht hi hz0 hz1 hz2 hz hs0 v xs.length inner hown ad m c inn (by rw [hri.1, hm1]) hci (by
    intro u hu
    obtain ⟨j, hj, hju⟩ := List.mem_iff_getElem.1 hu
    have hjs : j / d.sz < ys.length := by
      rw [Nat.div_lt_iff_lt_mul hs0]; have := hri.1; omega
    have h2 := hri.2 (j / d.sz) _ (List.getElem?_eq_getElem hjs)
    refine d.K_one h2 u ?_
    have hmod : j % d.sz < d.sz := Nat.mod_lt _ hs0
    have e1 : ((inn.drop (j / d.sz * d.sz)).take d.sz)[j % d.sz]? = some u := by
      rw [List.getElem?_take_of_lt hmod, List.getElem?_drop, Nat.mul_comm, Nat.div_add_mod, List.getElem?_eq_getElem hj, hju]
    exact List.mem_of_getElem? e1) hl2 hl hb
  refine ⟨v1, w1, h1, ⟨fun _ _ => trivial, inner ++ inn, by rw [List.length_append, hm1]; exact h2, ?_⟩, h3⟩
  exact Kd.reps_append (hr.imp_ (fun x cs h => (hp.M _ _ _ _ _).2 ((hp.M _ _ _ _ _).1 h))) (hri.imp_ (fun x cs h => (hp.M _ _ _ _ _).2 ((hp.K _ _ _).1 h)))
/-- An append whose run is told. -/
theorem wpList_append_eq {ops : Array Oper} {rest : List Oper} {o : Oper} {a : Act} {w w1 : World} {Q : Exit → Act → World → Prop} (hgd : o.guard = none) (s x : Operand) (t : TypeId)
    (ho : o.op = .call { callee := .builtin .append, args := #[s, x], argTypes := #[t, t] }) (v u v1 : Value) (hs : a.eval s = v) (hx : a.eval x = u)
    (hrun : (Builtin.append_ #[t, t] o.type #[v, u]).run Try.prog w = .ok v1 w1) (h : wpList Try.prog ops Q rest (a.put o.dst v1) w1) : wpList Try.prog ops Q (o :: rest) a w :=
  wpList_plain hgd fun K hK => by
    unfold Oper.wp execOp
    simp only [ho, resolve, invoke, builtin, Sem.run_bind, Sem.run_pure, Result.andThen_ok, List.map_toArray, List.map_cons, List.map_nil, hs, hx, hrun]
    exact hK _ _ h
/-- An empty row that was made. -/
theorem R_none (W : World) (base e : Nat) (hb : base ≤ W.heap.size) : d.R e (W.alloc (.cells #[] e)) base (fun _ => True) (.slice (some ⟨W.heap.size, 0, none⟩) 0 0) [] :=
  ⟨fun _ _ => trivial, [], ⟨by simp, .inr ⟨W.heap.size, 0, #[], rfl, hb, heap_alloc_new W _, Nat.le_refl _, Nat.zero_le _, by simp, by simp⟩⟩, Reps.none _ _⟩
end
theorem info_int : (Try.prog.info? 3).map (fun i => (i.zero, i.size, i.bytes)) = some (some (.int .i64 0), 1, 8) := by kernel_rfl
theorem info_inode : (Try.prog.info? 83).map (fun i => (i.zero, i.size, i.bytes)) = some (some (.agg #[.int .u8 0, .int .u8 0, .int .i64 0, .int .i64 0, .int .i64 0, .int .i64 0, .int .i64 0, .int .i64 0, .int .i64 0, .int .i64 0, .int .i64 0, .int .i64 0, .int .i64 0, .int .i64 0]), 14, 104) := by kernel_rfl
theorem info_row : (Try.prog.info? 122).map (fun i => (i.zero, i.size, i.bytes)) = some (some (.agg #[.int .u16 0, .int .i64 0]), 2, 16) := by kernel_rfl
/-- A row of labels: its label, and how often it is needed. -/
def rowC (x : Int × Int) : List Value := [.int .u16 x.1, .int .i64 x.2]
def RK : Kd (Int × Int) := flat 2 rowC (fun x u hu => by
  simp only [rowC, List.mem_cons, List.not_mem_nil, or_false] at hu
  rcases hu with h | h <;> rw [h] <;> rfl)
/-- An inode that is as this theorem's inodes are: its kind and its size. -/
def inoC (x : Int × Int) : List Value := [.int .u8 x.1, .int .u8 0, .int .i64 0, .int .i64 x.2, .int .i64 0, .int .i64 0, .int .i64 0, .int .i64 0, .int .i64 0, .int .i64 0, .int .i64 0, .int .i64 0, .int .i64 0, .int .i64 0]
def IK : Kd (Int × Int) := flat 14 inoC (fun x u hu => by
  simp only [inoC, List.mem_cons, List.not_mem_nil, or_false] at hu
  rcases hu with h | h | h | h | h | h | h | h | h | h | h | h | h | h <;> rw [h] <;> rfl)
set_option maxHeartbeats 4000000 in
set_option maxRecDepth 100000 in
theorem clone_byte (A0 : Option Addr) (c0 : Nat) (xs : List Int) (w : World) (hr : Kd.C (Kd.int .u8) w A0 xs.length xs) (h0 : 0 < xs.length) (hl : xs.length ≤ 4096) :
    Calls Try.prog 26 #[.slice A0 xs.length c0] w fun e w' => ∃ v, e = .returned v ∧ Kd.R (Kd.int .u8) 5 w' w.heap.size (fun _ => True) v xs ∧ Below w.heap.size w w' := by
  have hC := Lib.hid (Kd.C_below hr (below_alloc (Below.refl _ _) (.cells #[] 5)))
  have ha : ∃ ad, A0 = some ad := by
    obtain ⟨ad, e, _⟩ := hr.2.2 h0
    exact ⟨ad, e⟩
  obtain ⟨ad, rfl⟩ := ha
  obtain ⟨v1, w1, hap, hR1, hg1⟩ := (plain_int .u8).append (w.alloc (.cells #[] 5)) w.heap.size 33 33 5 (.int .u8 0) 1 Try.underlying33 info_u8 rfl (by decide) (.slice (some ⟨w.heap.size, 0, none⟩) 0 0) [] xs (R_none w _ _ (Nat.le_refl _)) (some ad) xs.length c0 h0 hC.out (by simp; omega) (by unfold maxLen; simp; omega) (below_size (below_alloc (Below.refl _ _) _))
  have HR := Lib.hid hR1
  have HB := Lib.hid (pw_below_grown (below_alloc (Below.refl w.heap.size w) (.cells #[] 5)) _ (below_size (below_alloc (Below.refl _ _) _)) hg1 (fun k hk => by simp [Value.ownBlock] at hk; omega))
  clear hR1 hg1 hr
  have q : ∀ W : World, (binOp .eql 33 (.slice (some ad) xs.length c0) (.slice none 0 0)).run Try.prog W = .ok (.bool false) W := fun W => Lib.run_eql_slice_nil W _ _ _ _ _ _ _ Try.underlying33
  go_enter Try.func26, Try.ntmps26
  go_wp2_with (first | ((with_reducible refine gate_builtin (b := .append) (xs := #[.tmp 5, .tmp 6]) rfl ?_); at_builtin; refine wpList_append_eq rfl (.tmp 5) (.tmp 6) 33 rfl _ _ v1 rfl rfl hap ?_))
  go_ret
  exact ⟨_, rfl, HR.out, HB.out⟩
set_option maxHeartbeats 4000000 in
set_option maxRecDepth 100000 in
theorem clone_int (A0 : Option Addr) (c0 : Nat) (xs : List Int) (w : World) (hr : Kd.C (Kd.int .i64) w A0 xs.length xs) (h0 : 0 < xs.length) (hl : xs.length ≤ 4096) :
    Calls Try.prog 51 #[.slice A0 xs.length c0] w fun e w' => ∃ v, e = .returned v ∧ Kd.R (Kd.int .i64) 3 w' w.heap.size (fun _ => True) v xs ∧ Below w.heap.size w w' := by
  have hC := Lib.hid (Kd.C_below hr (below_alloc (Below.refl _ _) (.cells #[] 3)))
  have ha : ∃ ad, A0 = some ad := by
    obtain ⟨ad, e, _⟩ := hr.2.2 h0
    exact ⟨ad, e⟩
  obtain ⟨ad, rfl⟩ := ha
  obtain ⟨v1, w1, hap, hR1, hg1⟩ := (plain_int .i64).append (w.alloc (.cells #[] 3)) w.heap.size 32 32 3 (.int .i64 0) 8 Try.underlying32 info_int rfl (by decide) (.slice (some ⟨w.heap.size, 0, none⟩) 0 0) [] xs (R_none w _ _ (Nat.le_refl _)) (some ad) xs.length c0 h0 hC.out (by simp; omega) (by unfold maxLen; simp; omega) (below_size (below_alloc (Below.refl _ _) _))
  have HR := Lib.hid hR1
  have HB := Lib.hid (pw_below_grown (below_alloc (Below.refl w.heap.size w) (.cells #[] 3)) _ (below_size (below_alloc (Below.refl _ _) _)) hg1 (fun k hk => by simp [Value.ownBlock] at hk; omega))
  clear hR1 hg1 hr
  have q : ∀ W : World, (binOp .eql 32 (.slice (some ad) xs.length c0) (.slice none 0 0)).run Try.prog W = .ok (.bool false) W := fun W => Lib.run_eql_slice_nil W _ _ _ _ _ _ _ Try.underlying32
  go_enter Try.func51, Try.ntmps51
  go_wp2_with (first | ((with_reducible refine gate_builtin (b := .append) (xs := #[.tmp 5, .tmp 6]) rfl ?_); at_builtin; refine wpList_append_eq rfl (.tmp 5) (.tmp 6) 32 rfl _ _ v1 rfl rfl hap ?_))
  go_ret
  exact ⟨_, rfl, HR.out, HB.out⟩
set_option maxHeartbeats 4000000 in
set_option maxRecDepth 100000 in
theorem clone_row (A0 : Option Addr) (c0 : Nat) (xs : List (Int × Int)) (w : World) (hr : Kd.C RK w A0 xs.length xs) (h0 : 0 < xs.length) (hl : xs.length ≤ 4096) :
    Calls Try.prog 50 #[.slice A0 xs.length c0] w fun e w' => ∃ v, e = .returned v ∧ Kd.R RK 122 w' w.heap.size (fun _ => True) v xs ∧ Below w.heap.size w w' := by
  have hC := Lib.hid (Kd.C_below hr (below_alloc (Below.refl _ _) (.cells #[] 122)))
  have ha : ∃ ad, A0 = some ad := by
    obtain ⟨ad, e, _⟩ := hr.2.2 h0
    exact ⟨ad, e⟩
  obtain ⟨ad, rfl⟩ := ha
  obtain ⟨v1, w1, hap, hR1, hg1⟩ := (plain_flat 2 rowC _).append (w.alloc (.cells #[] 122)) w.heap.size 31 31 122 (.agg #[.int .u16 0, .int .i64 0]) 16 Try.underlying31 info_row rfl (by decide) (.slice (some ⟨w.heap.size, 0, none⟩) 0 0) [] xs (R_none w _ _ (Nat.le_refl _)) (some ad) xs.length c0 h0 hC.out (by simp; omega) (by unfold maxLen; simp; omega) (below_size (below_alloc (Below.refl _ _) _))
  have HR := Lib.hid hR1
  have HB := Lib.hid (pw_below_grown (below_alloc (Below.refl w.heap.size w) (.cells #[] 122)) _ (below_size (below_alloc (Below.refl _ _) _)) hg1 (fun k hk => by simp [Value.ownBlock] at hk; omega))
  clear hR1 hg1 hr
  have q : ∀ W : World, (binOp .eql 31 (.slice (some ad) xs.length c0) (.slice none 0 0)).run Try.prog W = .ok (.bool false) W := fun W => Lib.run_eql_slice_nil W _ _ _ _ _ _ _ Try.underlying31
  go_enter Try.func50, Try.ntmps50
  go_wp2_with (first | ((with_reducible refine gate_builtin (b := .append) (xs := #[.tmp 5, .tmp 6]) rfl ?_); at_builtin; refine wpList_append_eq rfl (.tmp 5) (.tmp 6) 31 rfl _ _ v1 rfl rfl hap ?_))
  go_ret
  exact ⟨_, rfl, HR.out, HB.out⟩
set_option maxHeartbeats 4000000 in
set_option maxRecDepth 100000 in
theorem clone_inode (A0 : Option Addr) (c0 : Nat) (xs : List (Int × Int)) (w : World) (hr : Kd.C IK w A0 xs.length xs) (h0 : 0 < xs.length) (hl : xs.length ≤ 4096) :
    Calls Try.prog 52 #[.slice A0 xs.length c0] w fun e w' => ∃ v, e = .returned v ∧ Kd.R IK 83 w' w.heap.size (fun _ => True) v xs ∧ Below w.heap.size w w' := by
  have hC := Lib.hid (Kd.C_below hr (below_alloc (Below.refl _ _) (.cells #[] 83)))
  have ha : ∃ ad, A0 = some ad := by
    obtain ⟨ad, e, _⟩ := hr.2.2 h0
    exact ⟨ad, e⟩
  obtain ⟨ad, rfl⟩ := ha
  obtain ⟨v1, w1, hap, hR1, hg1⟩ := (plain_flat 14 inoC _).append (w.alloc (.cells #[] 83)) w.heap.size 34 34 83 (.agg #[.int .u8 0, .int .u8 0, .int .i64 0, .int .i64 0, .int .i64 0, .int .i64 0, .int .i64 0, .int .i64 0, .int .i64 0, .int .i64 0, .int .i64 0, .int .i64 0, .int .i64 0, .int .i64 0]) 104 Try.underlying34 info_inode rfl (by decide) (.slice (some ⟨w.heap.size, 0, none⟩) 0 0) [] xs (R_none w _ _ (Nat.le_refl _)) (some ad) xs.length c0 h0 hC.out (by simp; omega) (by unfold maxLen; simp; omega) (below_size (below_alloc (Below.refl _ _) _))
  have HR := Lib.hid hR1
  have HB := Lib.hid (pw_below_grown (below_alloc (Below.refl w.heap.size w) (.cells #[] 83)) _ (below_size (below_alloc (Below.refl _ _) _)) hg1 (fun k hk => by simp [Value.ownBlock] at hk; omega))
  clear hR1 hg1 hr
  have q : ∀ W : World, (binOp .eql 34 (.slice (some ad) xs.length c0) (.slice none 0 0)).run Try.prog W = .ok (.bool false) W := fun W => Lib.run_eql_slice_nil W _ _ _ _ _ _ _ Try.underlying34
  go_enter Try.func52, Try.ntmps52
  go_wp2_with (first | ((with_reducible refine gate_builtin (b := .append) (xs := #[.tmp 5, .tmp 6]) rfl ?_); at_builtin; refine wpList_append_eq rfl (.tmp 5) (.tmp 6) 34 rfl _ _ v1 rfl rfl hap ?_))
  go_ret
  exact ⟨_, rfl, HR.out, HB.out⟩
end Go.Proofs.Ytpbijdalfeaheaa.Tf

/- disk: a sector is read. -/
namespace Go.Proofs.Ytpbijdalfeaheaa.Tf
open Go.RowKit Go.Proofs.YtpbijdalfeaheaaW.PrintWords Go.Proofs.YtpbijdalfeaheaaW.PrintLast Go.Proofs.YtpbijdalfeaheaaW.PrintMore
set_option linter.unusedVariables false
set_option linter.unusedSimpArgs false
section
variable {α : Type} {enc : α → List Value} {n : Nat}
theorem flat_len : ∀ (xs : List α), (∀ x ∈ xs, (enc x).length = n) → (xs.flatMap enc).length = xs.length * n := by
  intro xs
  induction xs with
  | nil => intro _; simp
  | cons x xs ih =>
    intro h
    rw [List.flatMap_cons, List.length_append, h x List.mem_cons_self, ih (fun y hy => h y (List.mem_cons_of_mem _ hy)), List.length_cons, Nat.succ_mul, Nat.add_comm]
theorem flat_get : ∀ (xs : List α), (∀ x ∈ xs, (enc x).length = n) → ∀ (i : Nat) (hi : i < xs.length), ((xs.flatMap enc).drop (i * n)).take n = enc xs[i] := by
  intro xs
  induction xs with
  | nil => intro _ i hi; simp at hi
  | cons x xs ih =>
    intro h i hi
    have hx := h x List.mem_cons_self
    rw [List.flatMap_cons]
    cases i with
    | zero => rw [Nat.zero_mul, List.drop_zero, List.take_left' hx]; rfl
    | succ i =>
      have e : (enc x).length + i * n = (i + 1) * n := by rw [hx, Nat.succ_mul, Nat.add_comm]
      rw [← e, ← List.drop_drop, List.drop_left' rfl]
      exact ih (fun y hy => h y (List.mem_cons_of_mem _ hy)) i (by simpa using hi)
theorem flat_set : ∀ (xs : List α), (∀ x ∈ xs, (enc x).length = n) → ∀ (i : Nat) (y : α), i < xs.length → (xs.flatMap enc).take (i * n) ++ enc y ++ (xs.flatMap enc).drop (i * n + n) = (xs.set i y).flatMap enc := by
  intro xs
  induction xs with
  | nil => intro _ i y hi; simp at hi
  | cons x xs ih =>
    intro h i y hi
    have hx := h x List.mem_cons_self
    cases i with
    | zero => rw [Nat.zero_mul, List.take_zero, List.nil_append, Nat.zero_add, List.set_cons_zero, List.flatMap_cons, List.flatMap_cons, List.drop_left' hx]
    | succ i =>
      have e : (i + 1) * n = (enc x).length + i * n := by rw [hx, Nat.succ_mul, Nat.add_comm]
      rw [List.set_cons_succ, List.flatMap_cons, List.flatMap_cons, ← ih (fun y hy => h y (List.mem_cons_of_mem _ hy)) i y (by simpa using hi), e, List.take_append, List.take_of_length_le (by omega), Nat.add_assoc, ← List.drop_drop, List.drop_left' rfl, Nat.add_sub_cancel_left, List.append_assoc, List.append_assoc, List.append_assoc]
end
theorem blk_range {W : World} {g : Nat} {t : TypeId} {cs : List Value} (h : W.heap[g]? = some (.cells cs.toArray t (0, 0))) (o n : Nat) : W.rangeAt g o ((cs.drop o).take n) := by
  intro j v hj
  rw [blk_cell h]
  have hjn : j < n := by have := (List.getElem?_eq_some_iff.1 hj).1; simp at this; omega
  rw [List.getElem?_take_of_lt hjn, List.getElem?_drop] at hj
  simpa using hj
theorem secC_len65 {s : List Int} (h : s.length = 64) : (secC s).length = 65 := by rw [secC_len, h]
theorem DiskAt.range {W : World} {B gd gs : Nat} {D : Dk} (h : DiskAt W B gd gs D) (i : Nat) (hi : i < D.secs.length) : W.rangeAt gs (i * 65) (secC D.secs[i]) := by
  have := blk_range h.hs (i * 65) 65
  rw [flat_get D.secs (fun s hs => secC_len65 (h.len s hs)) i hi] at this
  exact this
/-- A store into a whole block, as the walk meets it. -/
theorem store_row {W : World} {g : Nat} {t ty : TypeId} {old cells : Array Value} (hg : W.heap[g]? = some (.cells old t (0, 0))) (hi : (Try.prog.info? ty).map (·.size) = some cells.size) (ho : old.size = cells.size) (h1 : ∀ v ∈ cells.toList, v.oneCell' = true) :
    (Instr.storeAt ty (.pointer (some ⟨g, 0, none⟩)) (.agg cells)).run Try.prog W = .ok () (W.setRow g cells) := by
  have h := run_storeVar_row (P := Try.prog) W g t ty old cells hg hi ho (Array.all_eq_true_iff_forall_mem.2 (fun v hv => h1 v (by simpa using hv)))
  simp only [Instr.storeAt, Instr.sureAddr, Sem.run_bind, Sem.run_pure, Result.andThen_ok, h]
section
variable {ops : Array Oper} {rest : List Oper} {o : Oper} {a : Act} {w : World} {Q : Exit → Act → World → Prop}
theorem gate_load (ty : TypeId) (x : Operand) (ho : o.op = .load ty x) (h : wpList Try.prog ops Q (o :: rest) a w) : wpList Try.prog ops Q (o :: rest) a w := h
theorem gate_store (ty : TypeId) (x y : Operand) (ho : o.op = .store ty x y) (h : wpList Try.prog ops Q (o :: rest) a w) : wpList Try.prog ops Q (o :: rest) a w := h
/-- A load whose run is told. -/
theorem wpList_load_eq (hgd : o.guard = none) (ty : TypeId) (x : Operand) (ho : o.op = .load ty x) (p v : Value) (hx : a.eval x = p) (hrun : (Instr.loadAt ty p).run Try.prog w = .ok v w) (h : wpList Try.prog ops Q rest (a.put o.dst v) w) : wpList Try.prog ops Q (o :: rest) a w :=
  wpList_plain hgd fun K hK => by
    unfold Oper.wp execOp
    simp only [ho, hx, Sem.run_bind, Sem.run_pure, Result.andThen_ok, hrun]
    exact hK _ _ h
/-- A store whose run is told. -/
theorem wpList_store_eq {w1 : World} (hgd : o.guard = none) (ty : TypeId) (x y : Operand) (ho : o.op = .store ty x y) (p v : Value) (hx : a.eval x = p) (hy : a.eval y = v) (hrun : (Instr.storeAt ty p v).run Try.prog w = .ok () w1) (h : wpList Try.prog ops Q rest (a.put o.dst undef) w1) : wpList Try.prog ops Q (o :: rest) a w :=
  wpList_plain hgd fun K hK => by
    unfold Oper.wp execOp
    simp only [ho, hx, hy, Sem.run_bind, Sem.run_pure, Result.andThen_ok, hrun]
    exact hK _ _ h
end
/-- A result that lies in memory, and one beside it. -/
theorem results_cell_tmp {fn : Func} {p u : Tmp} {ty : TypeId} (h : fn.results = #[.cell p ty, .tmp u]) (tmps : Array Value) (w : World) (g : Nat) (t : TypeId) (cs : Array Value) (fr : Nat × Nat) (d : TypeDesc)
    (hp : tmps.getD p undef = .pointer (some ⟨g, 0, none⟩)) (hg : w.heap[g]? = some (.cells cs t fr))
    (hu : Try.prog.underlying ty = some d) (hd : d.isRow = true) (hi : (Try.prog.info? ty).map (·.size) = some cs.size) :
    (results fn tmps).run Try.prog w = .ok (.tuple #[.agg cs, tmps.getD u undef]) w := by
  have hp' : tmps[p]?.getD undef = .pointer (some ⟨g, 0, none⟩) := by simpa using hp
  have hl := run_loadVar_mid (P := Try.prog) w g 0 ty cs.toList d (fun j v hj => by rw [Nat.zero_add, cell_of_row w g j cs t fr hg]; simpa using hj) hu hd (by rw [hi, Array.length_toList])
  simp [results, h, hp', asAddr, hl]
theorem zero95 : Try.zeroCells95.size = 65 := by kernel_rfl
theorem sz_sec : (Try.prog.info? 95).map (·.size) = some 65 := by kernel_rfl
set_option maxHeartbeats 4000000 in
set_option maxRecDepth 100000 in
theorem get_yes (B gd gs : Nat) (D : Dk) (i : Nat) (w : World) (h : DiskAt w B gd gs D) (hd : D.dead = false) (hi : i < 88) :
    Calls Try.prog 32 #[.pointer (some ⟨gd, 0, none⟩), .int .i64 i] w fun e w' => e = .returned (.tuple #[.agg (secC (D.secs.getD i [])).toArray, .int .i64 0]) ∧ Below w.heap.size w w' := by
  obtain ⟨secs, waits, dead, fuse⟩ := D
  subst hd
  have hil : i < secs.length := by rw [h.num]; exact hi
  obtain ⟨s, hs⟩ : ∃ s, secs[i] = s := ⟨_, rfl⟩
  have hgd : secs.getD i [] = s := by rw [List.getD_eq_getElem?_getD, List.getElem?_eq_getElem hil, hs]; rfl
  have hsl : s.length = 64 := h.len s (by rw [← hs]; exact List.getElem_mem hil)
  have hrange := h.range i hil
  rw [hs] at hrange
  rw [hgd]
  obtain ⟨vw, done, hb, hR⟩ := h.hd
  have H := Lib.hid h
  have Hr := Lib.hid hrange
  have Hb := Lib.hid hb
  have Hs := Lib.hid hsl
  clear hb hR h hrange hs hgd hsl hil
  have q1 : (i : Int) < 88 := by omega
  have q0 : 0 ≤ (i : Int) := by omega
  go_enter Try.func32, Try.ntmps32
  go_wp2_with fail
  obtain ⟨w1, hw1⟩ : ∃ w1, w.alloc (Obj.cells Try.zeroCells95 95) = w1 := ⟨_, rfl⟩
  have hB1 : Below w.heap.size w w1 := by rw [← hw1]; exact below_alloc (Below.refl _ _) _
  have hz : w1.heap[w.heap.size]? = some (.cells Try.zeroCells95 95 (0, 0)) := by rw [← hw1]; exact blk_new _ _
  rw [hw1]
  clear hw1
  refine (there_yes B gd gs _ i w1 (H.out.below hB1) q0 q1).mono ?_
  rintro e w' ⟨rfl, rfl⟩
  have hb1 := blk_below Hb.out hB1
  have x0 := blk_cell hb1 0
  have x2 := blk_cell hb1 2
  replace x0 : w1.cell? ⟨gd, 0, none⟩ = some (.slice (some ⟨gs, 0, none⟩) 88 88) := x0
  replace x2 : w1.cell? ⟨gd, 2, none⟩ = some (.bool false) := x2
  have hr1 : w1.rangeAt gs (i * 65) (secC s) := fun j v hj => by
    have h := Hr.out j v hj
    have hlt := World.block_lt_of_cell? w _ h
    rw [hB1.cell hlt]; exact h
  have hload := run_loadAt_mid (P := Try.prog) w1 gs (i * 65) 95 (secC s) _ hr1 Try.underlying95 rfl (by rw [sz_sec, secC_len65 Hs.out])
  have hstore := store_row (W := w1) (ty := 95) (cells := (secC s).toArray) hz (by rw [sz_sec]; simp [secC_len65 Hs.out]) (by rw [zero95]; simp [secC_len65 Hs.out]) (by simpa using secC_one s)
  have Hz := Lib.hid hz
  have HB1 := Lib.hid hB1
  replace hload := Lib.hid hload
  replace hstore := Lib.hid hstore
  clear hr1 hb1 hz hB1
  go_wp2_with (first | ((with_reducible refine gate_load 95 (.tmp 27) rfl ?_); refine wpList_load_eq rfl _ _ rfl _ _ rfl hload.out ?_) | ((with_reducible refine gate_store 95 (.tmp 4) (.tmp 28) rfl ?_); refine wpList_store_eq rfl _ _ _ rfl _ _ rfl rfl hstore.out ?_))
  refine bodyPost_ret (results_cell_tmp rfl _ _ w.heap.size 95 (secC s).toArray (0, 0) _ rfl ?_ Try.underlying95 rfl (by rw [sz_sec]; simp [secC_len65 Hs.out])) rfl ?_
  · exact setRow_heap w1 _ _ _ _ _ Hz.out
  · exact ⟨rfl, below_setRow HB1.out (Nat.le_refl _) _⟩
end Go.Proofs.Ytpbijdalfeaheaa.Tf

/- disk: Read. -/
namespace Go.Proofs.Ytpbijdalfeaheaa.Tf
open Go.RowKit Go.Proofs.YtpbijdalfeaheaaW.PrintWords Go.Proofs.YtpbijdalfeaheaaW.PrintLast Go.Proofs.YtpbijdalfeaheaaW.PrintMore
set_option linter.unusedVariables false
set_option linter.unusedSimpArgs false
/-- Numbers that lie in a block, from o on, are read. -/
theorem C_nums {W : World} {g o : Nat} {k : IntKind} {t : TypeId} {cs : List Value} {xs : List Int} (h : W.heap[g]? = some (.cells cs.toArray t (0, 0))) (hx : ∀ j x, xs[j]? = some x → cs[o + j]? = some (.int k x)) (hm : xs.length ≤ 100000) : Kd.C (Kd.int k) W (some ⟨g, o, none⟩) xs.length xs := by
  refine ⟨rfl, by omega, fun _ => ⟨_, rfl, fun j p hj => ⟨[.int k p], rfl, rfl, fun i u hi => ?_⟩⟩⟩
  have hi0 : i = 0 := by have := (List.getElem?_eq_some_iff.1 hi).1; simp at this; exact this
  subst hi0
  have hs : (Kd.int k).sz = 1 := rfl
  rw [Addr.add_mid, hs, Nat.mul_one, Nat.add_zero, blk_cell h, ]
  simp at hi
  subst hi
  simpa using hx j p hj
theorem secC_at (s : List Int) (j : Nat) (x : Int) (h : s[j]? = some x) : (secC s)[0 + j]? = some (.int .u8 x) := by
  have hj := (List.getElem?_eq_some_iff.1 h).1
  unfold secC nums
  rw [Nat.zero_add, List.getElem?_append_left (by simpa using hj), List.getElem?_map, h]; rfl
theorem clone_byteN (A0 : Option Addr) (c0 m : Nat) (xs : List Int) (w : World) (hm : xs.length = m) (hr : Kd.C (Kd.int .u8) w A0 m xs) (h0 : 0 < m) (hl : m ≤ 4096) :
    Calls Try.prog 26 #[.slice A0 m c0] w fun e w' => ∃ v, e = .returned v ∧ Kd.R (Kd.int .u8) 5 w' w.heap.size (fun _ => True) v xs ∧ Below w.heap.size w w' := by
  subst hm; exact clone_byte A0 c0 xs w hr h0 hl
set_option maxHeartbeats 4000000 in
set_option maxRecDepth 100000 in
theorem read_yes (B gd gs : Nat) (D : Dk) (i : Nat) (w : World) (h : DiskAt w B gd gs D) (hd : D.dead = false) (hi : i < 88) :
    Calls Try.prog 13 #[.pointer (some ⟨gd, 0, none⟩), .int .i64 i] w fun e w' => ∃ v, e = .returned (.tuple #[v, .int .i64 0]) ∧ Kd.R (Kd.int .u8) 5 w' w.heap.size (fun _ => True) v (D.secs.getD i []) ∧ Below w.heap.size w w' := by
  have hil : i < D.secs.length := by rw [h.num]; exact hi
  have hsl : (D.secs.getD i []).length = 64 := by
    rw [List.getD_eq_getElem?_getD, List.getElem?_eq_getElem hil]; exact h.len _ (List.getElem_mem hil)
  have H := Lib.hid (get_yes B gd gs D i w h hd hi)
  obtain ⟨s, hs⟩ : ∃ s, D.secs.getD i [] = s := ⟨_, rfl⟩
  rw [hs] at H hsl ⊢
  have Hs := Lib.hid hsl
  clear h hd hsl hs hil
  go_enter Try.func13, Try.ntmps13
  go_wp2_with fail
  refine H.out.mono ?_
  rintro e w1 ⟨rfl, hB1⟩
  obtain ⟨w2, hw2⟩ : ∃ w2, w1.alloc (Obj.cells Try.zeroCells95 95) = w2 := ⟨_, rfl⟩
  have hz : w2.heap[w1.heap.size]? = some (.cells Try.zeroCells95 95 (0, 0)) := by rw [← hw2]; exact blk_new _ _
  have hB2 : Below w.heap.size w w2 := by rw [← hw2]; exact below_alloc hB1 _
  have hsz := hB1.size
  have hstore := store_row (W := w2) (ty := 95) (cells := (secC s).toArray) hz (by rw [sz_sec]; simp [secC_len65 Hs.out]) (by rw [zero95]; simp [secC_len65 Hs.out]) (by simpa using secC_one s)
  replace hstore := Lib.hid hstore
  have hz2 := Lib.hid (setRow_heap w2 w1.heap.size _ (secC s).toArray _ _ hz)
  have HB := Lib.hid (below_setRow hB2 hsz (secC s).toArray)
  have hw := Lib.hid hw2
  clear hz hB1 hB2 hw2
  go_wp2_with (first | ((with_reducible refine gate_store 95 (.tmp 6) (.tmp 12) rfl ?_); rw [hw.out]; refine wpList_store_eq rfl _ _ _ rfl _ _ rfl rfl hstore.out ?_))
  refine (clone_byteN (some ⟨w1.heap.size, 0, none⟩) 64 64 s _ Hs.out (by rw [← Hs.out]; exact C_nums hz2.out (secC_at s) (by rw [Hs.out]; decide)) (by decide) (by decide)).mono ?_
  rintro e w3 ⟨v, rfl, hR, hB⟩
  have HR := Lib.hid (Kd.R_lower hR HB.out.size)
  have HB2 := Lib.hid (below_step HB.out hB)
  clear hR hB
  go_wp2_with fail
  go_ret2
  exact ⟨v, rfl, HR.out, HB2.out⟩
end Go.Proofs.Ytpbijdalfeaheaa.Tf

/- disk: a sector's cells are built. -/
namespace Go.Proofs.Ytpbijdalfeaheaa.Tf
open Go.RowKit Go.Proofs.YtpbijdalfeaheaaW.PrintWords Go.Proofs.YtpbijdalfeaheaaW.PrintLast Go.Proofs.YtpbijdalfeaheaaW.PrintMore
set_option linter.unusedVariables false
set_option linter.unusedSimpArgs false
theorem fold_set : ∀ (vs : List Value) (k off : Nat) (arr : Array Value), off + k + vs.length ≤ arr.size →
    ((vs.zipIdx k).foldl (fun cs (p : Value × Nat) => cs.setIfInBounds (off + p.2) p.1) arr) = (arr.toList.take (off + k) ++ vs ++ arr.toList.drop (off + k + vs.length)).toArray := by
  intro vs
  induction vs with
  | nil => intro k off arr h; simp
  | cons v vs ih =>
    intro k off arr h
    have hl : off + k < arr.toList.length := by simp at h ⊢; omega
    rw [List.zipIdx_cons, List.foldl_cons, ih (k + 1) off _ (by simp at h ⊢; omega)]
    apply congrArg List.toArray
    have e : off + (k + 1) = off + k + 1 := by omega
    have e2 : off + k + 1 + vs.length = off + k + (v :: vs).length := by simp; omega
    rw [e, e2, Array.toList_setIfInBounds, List.drop_set_of_lt (by simp), List.take_succ_eq_append_getElem (by rw [List.length_set]; exact hl), List.getElem_set_self, List.take_set_of_le (Nat.le_refl _)]
    simp
theorem fill_step {place : Nat → Option (Nat × Nat)} {cells : Array Value} {i : Nat} {v : Value} {rest : List (Nat × Value)} {off size : Nat} (hp : place i = some (off, size)) (hv : v.cells.size = size) (hf : off + size ≤ cells.size) :
    Instr.fill place cells ((i, v) :: rest) = Instr.fill place (cells.toList.take off ++ v.cells.toList ++ cells.toList.drop (off + size)).toArray rest := by
  have h := fold_set v.cells.toList 0 off cells (by simp; omega)
  simp only [Nat.add_zero, Array.length_toList, hv] at h
  rw [Instr.fill, hp]
  simp only [hv]
  rw [if_neg (by simp; omega)]
  congr 1
  rw [← h, ← Array.toList_zipIdx, Array.foldl_toList]
theorem built_sec (parts : List (Nat × Value)) : Try.prog.built 95 parts = Instr.fill (#[(0, 64), (64, 1)][·]?) Try.zeroCells95 parts := by kernel_rfl
theorem built_wait (parts : List (Nat × Value)) : Try.prog.built 97 parts = Instr.fill (#[(0, 1), (1, 65), (66, 65)][·]?) Try.zeroCells97 parts := by kernel_rfl
theorem zero97 : Try.zeroCells97.size = 131 := by kernel_rfl
theorem sec_built (s : List Int) (hs : s.length = 64) : Try.prog.built 95 [(0, .agg (nums .u8 s).toArray), (1, .int .u16 0)] = some (secC s).toArray := by
  have hn : (nums .u8 s).length = 64 := by simp [nums, hs]
  have hz := zero95
  rw [built_sec, fill_step (off := 0) (size := 64) rfl (by simp [Value.cells, hn]) (by rw [hz]; decide), fill_step (off := 64) (size := 1) rfl (by simp [Value.cells]) (by simp [Value.cells, hn, hz]), Instr.fill]
  congr 2
  have e : ∀ a : List Value, ([] : List Value) ++ a = a := fun a => rfl
  simp only [Value.cells, List.take_zero, e]
  rw [List.take_left' hn, List.drop_of_length_le (by simp [hn, hz]), List.append_nil]
  rfl
theorem wait_built (i : Nat) (s s' : List Int) (hs : s.length = 64) (hs' : s'.length = 64) : Try.prog.built 97 [(0, .int .i64 (i : Int)), (1, .agg (secC s).toArray), (2, .agg (secC s').toArray)] = some (waitC (i, s, s')).toArray := by
  have hn := secC_len65 hs
  have hn' := secC_len65 hs'
  have hz := zero97
  rw [built_wait, fill_step (off := 0) (size := 1) rfl (by simp [Value.cells]) (by rw [hz]; decide), fill_step (off := 1) (size := 65) rfl (by simp [Value.cells, hn]) (by simp [Value.cells, hz]), fill_step (off := 66) (size := 65) rfl (by simp [Value.cells, hn']) (by simp [Value.cells, hz, hn]), Instr.fill]
  congr 2
  unfold waitC
  have e : ∀ a : List Value, ([] : List Value) ++ a = a := fun a => rfl
  have e1 : ∀ (x : Value) (r : List Value), [x] ++ r = x :: r := fun _ _ => rfl
  simp only [Value.cells, List.take_zero, e]
  rw [List.take_left' (show ([Value.int .i64 (i : Int)] : List Value).length = 1 from rfl)]
  rw [List.take_left' (show ([Value.int .i64 (i : Int)] ++ secC s : List Value).length = 66 by simp [hn])]
  rw [List.drop_of_length_le (by simp [hn, hz]), List.append_nil]
  rfl
end Go.Proofs.Ytpbijdalfeaheaa.Tf
