/- Walks and plain laws on which the claim stands, several texts joined. -/
import Derived.Test.YtinfjmdcmfpdiaaM11

/- The statements' examples: moatlaw12.shown answers true. -/
namespace Go.Proofs.Ytinfjmdcmfpdiaa.Sh
open Go.RowKit Go.Proofs.Ytinfjmdcmfpdiaa.Rt Go.Proofs.Ytinfjmdcmfpdiaa.Md Go.Proofs.Ytinfjmdcmfpdiaa.Al Go.Proofs.Ytinfjmdcmfpdiaa.Pc Go.Proofs.Ytinfjmdcmfpdiaa.Fn Go.Proofs.Ytinfjmdcmfpdiaa.Cp Go.Proofs.Ytinfjmdcmfpdiaa.Ad Go.Proofs.Ytinfjmdcmfpdiaa.Rm Go.Proofs.YtinfjmdcmfpdiaaW.PrintWords Go.Proofs.YtinfjmdcmfpdiaaW.PrintLast Go.Proofs.YtinfjmdcmfpdiaaW.PrintMore
set_option linter.unusedVariables false
set_option linter.unusedSimpArgs false

/-- Two rows that are read as texts. -/
structure ShS (w : World) (A1 : Option Addr) (c1 : Nat) (L1 : List Int) (A3 : Option Addr) (c3 : Nat) (L3 : List Int) (W : World) : Prop where
  r1 : Kd.C (Kd.int .u8) W A1 L1.length L1
  r3 : Kd.C (Kd.int .u8) W A3 L3.length L3
  below : Below w.heap.size w W
variable {w W W' : World} {A1 A3 : Option Addr} {c1 c3 : Nat} {L1 L3 : List Int}
theorem ShS.drew (h : ShS w A1 c1 L1 A3 c3 L3 W) : ShS w A1 c1 L1 A3 c3 L3 W.drew := ⟨Kd.C_drew h.r1, Kd.C_drew h.r3, below_drew1 h.below⟩
theorem ShS.grown (h : ShS w A1 c1 L1 A3 c3 L3 W) (hb : Below w.heap.size w W') (hg : W.grownBy W' none) : ShS w A1 c1 L1 A3 c3 L3 W' := by
  have hB : Below W.heap.size W W' := ⟨hg.os, hg.tape, hg.output, hg.size, fun i hi => hg.block i hi (by simp)⟩
  exact ⟨Kd.C_below h.r1 hB, Kd.C_below h.r3 hB, hb⟩
theorem ShS.cv1 (h : ShS w A1 c1 L1 A3 c3 L3 W) : (convert 24 9 (.slice A1 L1.length c1)).run Try.prog W = .ok (.string (strOfNums L1)) W := Kd.C_string Try.underlying24 Try.underlying5 Try.underlying9 h.r1
theorem ShS.cv3 (h : ShS w A1 c1 L1 A3 c3 L3 W) : (convert 24 9 (.slice A3 L3.length c3)).run Try.prog W = .ok (.string (strOfNums L3)) W := Kd.C_string Try.underlying24 Try.underlying5 Try.underlying9 h.r3

def bA : ByteArray := ⟨#[97]⟩
def bB : ByteArray := ⟨#[98]⟩
theorem okA : okE (bA, 5) := ⟨by rfl, by decide, by decide⟩
theorem okB : okE (bB, 6) := ⟨by rfl, by decide, by decide⟩
theorem good0 : Md.Good [] := ⟨.nil, by simp [names], by simp⟩
theorem good1 : Md.Good [some (bA, 5)] := ⟨.one okA, by simp [names], by simp⟩
theorem neAB : bA ≠ bB := by intro h; have := congrArg (fun b : ByteArray => b.data.toList) h; simp [bA, bB] at this
theorem good2 : Md.Good [some (bA, 5), some (bB, 6)] := ⟨(AllOk.one okA).append (.one okB), by simp [names, neAB], by simp⟩
theorem good3 : Md.Good [none, some (bB, 6)] := ⟨(AllOk.none).append (.one okB), by simp [names], by simp⟩
theorem addA_good {s : List Sl} (h : Md.Good s) (n : ByteArray) (i : Int) : addA (bytesS s) n i = addS s n i := by unfold addA; rw [good_dir h]
theorem removeA_good {s : List Sl} (h : Md.Good s) (n : ByteArray) : removeA (bytesS s) n = removeS s n := by unfold removeA; rw [good_dir h]
theorem add1 : addA [] bA 5 = (bytesS [some (bA, 5)], 0) := by
  have := addA_good good0 bA 5
  rw [bytesS_nil] at this
  rw [this]
  unfold addS
  rw [layA_right okA.1 okA.2.1 okA.2.2, if_pos rfl, if_neg (by decide)]
  rfl
theorem add2 : addA (bytesS [some (bA, 5)]) bB 6 = (bytesS [some (bA, 5), some (bB, 6)], 0) := by
  rw [addA_good good1]
  have hp : placeA [some (bA, 5)] bB = -1 := by
    show (if bA = bB then ((0 : Nat) : Int) else -1) = -1
    rw [if_neg neAB]
  unfold addS
  rw [layA_right okB.1 okB.2.1 okB.2.2, if_pos rfl, hp, if_neg (by decide)]
  rfl
theorem rm1 : removeA (bytesS [some (bA, 5), some (bB, 6)]) bA = (bytesS [none, some (bB, 6)], 0) := by
  rw [removeA_good good2]
  have hp : placeA [some (bA, 5), some (bB, 6)] bA = 0 := by
    have h : placeA [some (bA, 5), some (bB, 6)] bA = if bA = bA then ((0 : Nat) : Int) else placeGo bA [some (bB, 6)] 1 := rfl
    rw [h, if_pos rfl]; rfl
  unfold removeS
  rw [hp, if_pos (by decide)]
  rfl
theorem rm2 : removeA (bytesS [none, some (bB, 6)]) bB = ([], 0) := by
  rw [removeA_good good3]
  have hp : placeA [none, some (bB, 6)] bB = 1 := by
    have h : placeA [none, some (bB, 6)] bB = if bB = bB then ((1 : Nat) : Int) else placeGo bB [] 2 := rfl
    rw [h, if_pos rfl]; rfl
  unfold removeS
  rw [hp, if_pos (by decide)]
  rfl
theorem text1 : ((strOfNums (La.layL bA 5)).toList == ((⟨#[1, 229, 5, 97]⟩ : ByteArray) ++ strOfNums (List.replicate 12 0)).toList) = true := by
  rw [beq_iff_eq, Lib.toList_data, Lib.toList_data]
  decide +kernel

set_option maxHeartbeats 8000000 in
set_option maxRecDepth 100000 in
theorem shown_any (w : World) : Calls Try.prog 10 #[] w fun e w' => e = .returned (.bool true) ∧ Below w.heap.size w w' := by
  have HL : Hid (P.entry_Lay.f ⟨#[97]⟩ 5 = some (La.layL bA 5, 0)) := Lib.hid (by unfold P.entry_Lay.f; rw [← layA_right okA.1 okA.2.1 okA.2.2]; rfl)
  obtain ⟨L1, hL1⟩ : ∃ L, L = La.layL bA 5 := ⟨_, rfl⟩
  obtain ⟨L3, hL3⟩ : ∃ L, L = bytesS [some (bA, 5)] := ⟨_, rfl⟩
  obtain ⟨L5, hL5⟩ : ∃ L, L = bytesS [some (bA, 5), some (bB, 6)] := ⟨_, rfl⟩
  obtain ⟨L7, hL7⟩ : ∃ L, L = bytesS [none, some (bB, 6)] := ⟨_, rfl⟩
  obtain ⟨L12, hL12⟩ : ∃ L, L = List.replicate 12 (0 : Int) := ⟨_, rfl⟩
  have A1' : Hid (addA [] ⟨#[97]⟩ 5 = (L3, 0)) := Lib.hid (by rw [hL3]; exact add1)
  have A2' : Hid (addA L3 ⟨#[98]⟩ 6 = (L5, 0)) := Lib.hid (by rw [hL3, hL5]; exact add2)
  have R1' : Hid (removeA L5 ⟨#[97]⟩ = (L7, 0)) := Lib.hid (by rw [hL5, hL7]; exact rm1)
  have R2' : Hid (removeA L7 ⟨#[98]⟩ = ([], 0)) := Lib.hid (by rw [hL7]; exact rm2)
  have B3 : Hid (Bytes L3) := Lib.hid (by rw [hL3]; exact bytesS_bytes good1.ok)
  have B5 : Hid (Bytes L5) := Lib.hid (by rw [hL5]; exact bytesS_bytes good2.ok)
  have B7 : Hid (Bytes L7) := Lib.hid (by rw [hL7]; exact bytesS_bytes good3.ok)
  have n7 : Hid (L7.length = 32) := Lib.hid (by rw [hL7, bytesS_len good3.ok]; rfl)
  have t1 : ((strOfNums L1).toList == ((⟨#[1, 229, 5, 97]⟩ : ByteArray) ++ strOfNums L12).toList) = true := by rw [hL1, hL12]; exact text1
  have t2 : ((strOfNums L3).toList == (strOfNums L1).toList) = true := by rw [beq_iff_eq, hL1, hL3]; simp [bytesS, slotB]
  have z12 : 4 + (strOfNums L12).size ≤ 9223372036854775807 := by rw [hL12, strOfNums_size]; decide
  have z12b : decide (4 + (strOfNums L12).size ≤ 9223372036854775807) = true := decide_eq_true z12
  have z12c : (9223372036854775807 < 4 + (strOfNums L12).size) = False := eq_false (Nat.not_lt.2 z12)
  rw [← hL1] at HL
  replace hL1 := Lib.hid hL1
  replace hL3 := Lib.hid hL3
  replace hL5 := Lib.hid hL5
  replace hL7 := Lib.hid hL7
  replace hL12 := Lib.hid hL12
  go_enter Try.func10, Try.ntmps10
  go_wp2_with fail
  refine (P.entry_Lay.calls ⟨#[97]⟩ 5 L1 0 _ HL.out).mono ?_
  rintro e w1 ⟨v1, rfl, ho1, hb⟩
  obtain ⟨A1, c1, ev1, hc1, hr1⟩ := Kd.R_reads ho1
  subst ev1
  have hB := Lib.hid hb
  replace hr1 := Lib.hid hr1
  clear hb ho1
  go_wp2_with fail
  refine (add_any none 0 [] ⟨#[97]⟩ 5 _ (by decide) Bytes.nil (Kd.C_nil _ _) (Nat.le_refl _)).mono ?_
  rw [A1'.out]
  rintro e w2 ⟨v3, rfl, ho3, hb⟩
  obtain ⟨A3, c3, ev3, hc3, hr3⟩ := Kd.R_reads ho3
  subst ev3
  replace hr1 := Lib.hid (Kd.C_below hr1.out hb)
  replace hB := Lib.hid (below_step hB.out hb)
  replace hr3 := Lib.hid hr3
  clear hb ho3
  go_wp2_with fail
  refine (add_any A3 c3 L3 ⟨#[98]⟩ 6 _ (by decide) B3.out hr3.out hc3).mono ?_
  rw [A2'.out]
  rintro e w3 ⟨v5, rfl, ho5, hb⟩
  obtain ⟨A5, c5, ev5, hc5, hr5⟩ := Kd.R_reads ho5
  subst ev5
  replace hr1 := Lib.hid (Kd.C_below hr1.out hb)
  replace hr3 := Lib.hid (Kd.C_below hr3.out hb)
  replace hB := Lib.hid (below_step hB.out hb)
  replace hr5 := Lib.hid hr5
  clear hb ho5
  go_wp2_with fail
  refine (remove_any A5 c5 L5 ⟨#[97]⟩ _ (by decide) B5.out hr5.out hc5).mono ?_
  rw [R1'.out]
  rintro e w4 ⟨v7, rfl, ho7, hb⟩
  obtain ⟨A7, c7, ev7, hc7, hr7⟩ := Kd.R_reads ho7
  subst ev7
  replace hr1 := Lib.hid (Kd.C_below hr1.out hb)
  replace hr3 := Lib.hid (Kd.C_below hr3.out hb)
  replace hB := Lib.hid (below_step hB.out hb)
  replace hr7 := Lib.hid hr7
  clear hb ho7 hr5
  go_wp2_with fail
  refine (remove_any A7 c7 L7 ⟨#[98]⟩ _ (by decide) B7.out hr7.out hc7).mono ?_
  rw [R2'.out]
  rintro e w5 ⟨v9, rfl, ho9, hb⟩
  obtain ⟨A9, c9, ev9, hc9, hr9⟩ := Kd.R_reads ho9
  subst ev9
  have hS0 : ShS w A1 c1 L1 A3 c3 L3 w5 := ⟨Kd.C_below hr1.out hb, Kd.C_below hr3.out hb, below_step hB.out hb⟩
  replace hS0 := Lib.hid hS0
  clear hb ho9 hr9 hr7 hr1 hr3 hB
  rw [n7.out, List.length_nil]
  go_wp2_with fail
  replace hS0 := hS0.out
  refine start_ (n := 44) (S := ShS w A1 c1 L1 A3 c3 L3) (ds := []) #[false, false, false, false, false, false, false, false, false, false, false, false, false, false, false, false, false, false, false, false, false, false, false, false, false, false, false, false, false, false, false, false, false, false, false, false, false, false, false, false, false, false, false, false] (by kernel_rfl) rfl rfl hS0.drew (fun hHeld => ?_)
  refine pure_ (i := 0) (N := some 37) (v := ?_) (a' := ?_) #[true, false, false, false, false, false, false, false, false, false, false, false, false, false, false, false, false, false, false, false, false, false, false, false, false, false, false, false, false, false, false, false, false, false, false, false, false, false, false, false, false, false, false, false] rfl rfl (by kernel_rfl) (fun _ _ _ h => h) (Or.inl ⟨by rfl, ?_⟩) ?_ ?_
  rotate_left
  · intro w'
    go_simp
    with_reducible rfl
  rotate_left
  · simp only [Act.put, List.setIfInBounds_toArray, List.set_cons_zero, List.set_cons_succ, i64_w, i32_w]
    rfl
  refine pure_ (i := 1) (N := some 38) (v := ?_) (a' := ?_) #[true, true, false, false, false, false, false, false, false, false, false, false, false, false, false, false, false, false, false, false, false, false, false, false, false, false, false, false, false, false, false, false, false, false, false, false, false, false, false, false, false, false, false, false] rfl rfl (by kernel_rfl) (fun _ _ _ h => h) (Or.inl ⟨by rfl, ?_⟩) ?_ ?_
  rotate_left
  · intro w'
    go_simp
    with_reducible rfl
  rotate_left
  · simp only [Act.put, List.setIfInBounds_toArray, List.set_cons_zero, List.set_cons_succ, i64_w, i32_w]
    rfl
  refine pure_ (i := 2) (N := some 39) (v := ?_) (a' := ?_) #[true, true, true, false, false, false, false, false, false, false, false, false, false, false, false, false, false, false, false, false, false, false, false, false, false, false, false, false, false, false, false, false, false, false, false, false, false, false, false, false, false, false, false, false] rfl rfl (by kernel_rfl) (fun _ _ _ h => h) (Or.inl ⟨by rfl, ?_⟩) ?_ ?_
  rotate_left
  · intro w'
    go_simp
    with_reducible rfl
  rotate_left
  · simp only [Act.put, List.setIfInBounds_toArray, List.set_cons_zero, List.set_cons_succ, i64_w, i32_w]
    rfl
  refine pure_ (i := 3) (N := some 40) (v := ?_) (a' := ?_) #[true, true, true, true, false, false, false, false, false, false, false, false, false, false, false, false, false, false, false, false, false, false, false, false, false, false, false, false, false, false, false, false, false, false, false, false, false, false, false, false, false, false, false, false] rfl rfl (by kernel_rfl) (fun _ _ _ h => h) (Or.inl ⟨by rfl, ?_⟩) ?_ ?_
  rotate_left
  · intro w'
    go_simp
    with_reducible rfl
  rotate_left
  · simp only [Act.put, List.setIfInBounds_toArray, List.set_cons_zero, List.set_cons_succ, i64_w, i32_w]
    rfl
  refine take_ (i := 4) (N := some 41) (v := ?_) (a' := ?_) #[true, true, true, true, true, false, false, false, false, false, false, false, false, false, false, false, false, false, false, false, false, false, false, false, false, false, false, false, false, false, false, false, false, false, false, false, false, false, false, false, false, false, false, false] rfl rfl (by kernel_rfl) (fun _ _ _ h => h) (Or.inl ⟨by rfl, ?_⟩) hHeld ?_ ?_
  rotate_left
  · rintro w' hS
    have hcv := hS.cv1
    go_simp
    with_reducible rfl
  rotate_left
  · simp only [Act.put, List.setIfInBounds_toArray, List.set_cons_zero, List.set_cons_succ, i64_w, i32_w]
    rfl
  refine one_ (i := 5) (N := some 42) #[true, true, true, true, true, true, false, false, false, false, false, false, false, false, false, false, false, false, false, false, false, false, false, false, false, false, false, false, false, false, false, false, false, false, false, false, false, false, false, false, false, false, false, false] rfl rfl (by kernel_rfl) (by decide) (fun K hK => ?_)
  refine Kd.R_make_step (Kd.int .u8) (w0 := w) w.heap.size 5 (by rfl) (N := 42) rfl 24 _ _ rfl 12 rfl rfl Try.underlying24 (.int .u8 0) 1 Rl.info_u8 rfl (by decide) (by omega) 0 (ok := fun _ => True) (okp := fun _ => True) rfl (fun _ hk => hk) trivial (by omega) (by omega) hHeld.below hHeld.below.size ?_
  intro z6 w6 ho6 hb6 hg6 hn6
  have hS6 := hHeld.grown hb6 hg6
  rw [show List.replicate (12 : Int).toNat (0 : Int) = L12 from hL12.out.symm] at ho6
  replace ho6 := Lib.hid ho6
  clear hg6 hn6 hb6
  refine hK.out _ _ hS6 (fun hHeld => ?_)
  clear hK K hS6
  refine norm_ (a' := ?_) ?_ ?_
  rotate_left
  · show Act.put _ (some 42) _ = _
    simp only [Act.put, List.setIfInBounds_toArray, List.set_cons_zero, List.set_cons_succ, i64_w, i32_w]
    rfl
  refine one_ (i := 6) (N := some 43) #[true, true, true, true, true, true, true, false, false, false, false, false, false, false, false, false, false, false, false, false, false, false, false, false, false, false, false, false, false, false, false, false, false, false, false, false, false, false, false, false, false, false, false, false] rfl rfl (by kernel_rfl) (by decide) (fun K hK => ?_)
  have hcv := own_string (P := Try.prog) Try.underlying24 Try.underlying5 Try.underlying9 (Kd.own_of_R ho6.out)
  refine value_ (w1 := ?_) (v := ?_) (by rfl) rfl ?_ ?_
  rotate_left 2
  · go_simp
    constructor
    · rfl
    · rfl
  clear hcv
  refine hK.out _ _ hHeld (fun hHeld => ?_)
  clear hK K
  refine norm_ (a' := ?_) ?_ ?_
  rotate_left
  · show Act.put _ (some 43) _ = _
    simp only [Act.put, List.setIfInBounds_toArray, List.set_cons_zero, List.set_cons_succ, i64_w, i32_w]
    rfl
  refine pure_ (i := 7) (N := some 44) (v := ?_) (a' := ?_) #[true, true, true, true, true, true, true, true, false, false, false, false, false, false, false, false, false, false, false, false, false, false, false, false, false, false, false, false, false, false, false, false, false, false, false, false, false, false, false, false, false, false, false, false] rfl rfl (by kernel_rfl) (fun _ _ _ h => h) (Or.inl ⟨by rfl, ?_⟩) ?_ ?_
  rotate_left
  · intro w'
    go_simp
    with_reducible rfl
  rotate_left
  · simp only [Act.put, List.setIfInBounds_toArray, List.set_cons_zero, List.set_cons_succ, i64_w, i32_w]
    rfl
  refine pure_ (i := 8) (N := some 45) (v := ?_) (a' := ?_) #[true, true, true, true, true, true, true, true, true, false, false, false, false, false, false, false, false, false, false, false, false, false, false, false, false, false, false, false, false, false, false, false, false, false, false, false, false, false, false, false, false, false, false, false] rfl rfl (by kernel_rfl) (fun _ _ _ h => h) (Or.inl ⟨by rfl, ?_⟩) ?_ ?_
  rotate_left
  · intro w'
    go_simp
    with_reducible rfl
  rotate_left
  · simp only [Act.put, List.setIfInBounds_toArray, List.set_cons_zero, List.set_cons_succ, i64_w, i32_w]
    rfl
  refine pure_ (i := 9) (N := some 46) (v := ?_) (a' := ?_) #[true, true, true, true, true, true, true, true, true, true, false, false, false, false, false, false, false, false, false, false, false, false, false, false, false, false, false, false, false, false, false, false, false, false, false, false, false, false, false, false, false, false, false, false] rfl rfl (by kernel_rfl) (fun _ _ _ h => h) (Or.inl ⟨by rfl, ?_⟩) ?_ ?_
  rotate_left
  · intro w'
    go_simp
    with_reducible rfl
  rotate_left
  · simp only [Act.put, List.setIfInBounds_toArray, List.set_cons_zero, List.set_cons_succ, i64_w, i32_w]
    rfl
  refine pure_ (i := 10) (N := some 47) (v := ?_) (a' := ?_) #[true, true, true, true, true, true, true, true, true, true, true, false, false, false, false, false, false, false, false, false, false, false, false, false, false, false, false, false, false, false, false, false, false, false, false, false, false, false, false, false, false, false, false, false] rfl rfl (by kernel_rfl) (fun _ _ _ h => h) (Or.inl ⟨by rfl, ?_⟩) ?_ ?_
  rotate_left
  · intro w'
    go_simp
    with_reducible rfl
  rotate_left
  · simp only [Act.put, List.setIfInBounds_toArray, List.set_cons_zero, List.set_cons_succ, i64_w, i32_w]
    rfl
  refine pure_ (i := 11) (N := some 48) (v := ?_) (a' := ?_) #[true, true, true, true, true, true, true, true, true, true, true, true, false, false, false, false, false, false, false, false, false, false, false, false, false, false, false, false, false, false, false, false, false, false, false, false, false, false, false, false, false, false, false, false] rfl rfl (by kernel_rfl) (fun _ _ _ h => h) (Or.inl ⟨by rfl, ?_⟩) ?_ ?_
  rotate_left
  · intro w'
    go_simp
    with_reducible rfl
  rotate_left
  · simp only [Act.put, List.setIfInBounds_toArray, List.set_cons_zero, List.set_cons_succ, i64_w, i32_w]
    rfl
  refine pure_ (i := 12) (N := some 49) (v := ?_) (a' := ?_) #[true, true, true, true, true, true, true, true, true, true, true, true, true, false, false, false, false, false, false, false, false, false, false, false, false, false, false, false, false, false, false, false, false, false, false, false, false, false, false, false, false, false, false, false] rfl rfl (by kernel_rfl) (fun _ _ _ h => h) (Or.inl ⟨by rfl, ?_⟩) ?_ ?_
  rotate_left
  · intro w'
    go_simp
    with_reducible rfl
  rotate_left
  · simp only [Act.put, List.setIfInBounds_toArray, List.set_cons_zero, List.set_cons_succ, i64_w, i32_w]
    rfl
  refine pure_ (i := 13) (N := some 50) (v := ?_) (a' := ?_) #[true, true, true, true, true, true, true, true, true, true, true, true, true, true, false, false, false, false, false, false, false, false, false, false, false, false, false, false, false, false, false, false, false, false, false, false, false, false, false, false, false, false, false, false] rfl rfl (by kernel_rfl) (fun _ _ _ h => h) (Or.inl ⟨by rfl, ?_⟩) ?_ ?_
  rotate_left
  · intro w'
    go_simp
    with_reducible rfl
  rotate_left
  · simp only [Act.put, List.setIfInBounds_toArray, List.set_cons_zero, List.set_cons_succ, i64_w, i32_w]
    rfl
  refine pure_ (i := 14) (N := some 51) (v := ?_) (a' := ?_) #[true, true, true, true, true, true, true, true, true, true, true, true, true, true, true, false, false, false, false, false, false, false, false, false, false, false, false, false, false, false, false, false, false, false, false, false, false, false, false, false, false, false, false, false] rfl rfl (by kernel_rfl) (fun _ _ _ h => h) (Or.inl ⟨by rfl, ?_⟩) ?_ ?_
  rotate_left
  · intro w'
    go_simp
    with_reducible rfl
  rotate_left
  · simp only [Act.put, List.setIfInBounds_toArray, List.set_cons_zero, List.set_cons_succ, i64_w, i32_w]
    rfl
  refine pure_ (i := 15) (N := some 52) (v := ?_) (a' := ?_) #[true, true, true, true, true, true, true, true, true, true, true, true, true, true, true, true, false, false, false, false, false, false, false, false, false, false, false, false, false, false, false, false, false, false, false, false, false, false, false, false, false, false, false, false] rfl rfl (by kernel_rfl) (fun _ _ _ h => h) (Or.inl ⟨by rfl, ?_⟩) ?_ ?_
  rotate_left
  · intro w'
    go_simp
    with_reducible rfl
  rotate_left
  · simp only [Act.put, List.setIfInBounds_toArray, List.set_cons_zero, List.set_cons_succ, i64_w, i32_w]
    rfl
  refine take_ (i := 16) (N := some 53) (v := ?_) (a' := ?_) #[true, true, true, true, true, true, true, true, true, true, true, true, true, true, true, true, true, false, false, false, false, false, false, false, false, false, false, false, false, false, false, false, false, false, false, false, false, false, false, false, false, false, false, false] rfl rfl (by kernel_rfl) (fun _ _ _ h => h) (Or.inl ⟨by rfl, ?_⟩) hHeld ?_ ?_
  rotate_left
  · rintro w' hS
    have hcv := hS.cv3
    go_simp
    with_reducible rfl
  rotate_left
  · simp only [Act.put, List.setIfInBounds_toArray, List.set_cons_zero, List.set_cons_succ, i64_w, i32_w]
    rfl
  refine pure_ (i := 17) (N := some 54) (v := ?_) (a' := ?_) #[true, true, true, true, true, true, true, true, true, true, true, true, true, true, true, true, true, true, false, false, false, false, false, false, false, false, false, false, false, false, false, false, false, false, false, false, false, false, false, false, false, false, false, false] rfl rfl (by kernel_rfl) (fun _ _ _ h => h) (Or.inl ⟨by rfl, ?_⟩) ?_ ?_
  rotate_left
  · intro w'
    go_simp
    with_reducible rfl
  rotate_left
  · simp only [Act.put, List.setIfInBounds_toArray, List.set_cons_zero, List.set_cons_succ, i64_w, i32_w]
    rfl
  refine take_ (i := 18) (N := some 55) (v := ?_) (a' := ?_) #[true, true, true, true, true, true, true, true, true, true, true, true, true, true, true, true, true, true, true, false, false, false, false, false, false, false, false, false, false, false, false, false, false, false, false, false, false, false, false, false, false, false, false, false] rfl rfl (by kernel_rfl) (fun _ _ _ h => h) (Or.inl ⟨by rfl, ?_⟩) hHeld ?_ ?_
  rotate_left
  · rintro w' hS
    have hcv := hS.cv1
    go_simp
    with_reducible rfl
  rotate_left
  · simp only [Act.put, List.setIfInBounds_toArray, List.set_cons_zero, List.set_cons_succ, i64_w, i32_w]
    rfl
  refine pure_ (i := 19) (N := some 56) (v := ?_) (a' := ?_) #[true, true, true, true, true, true, true, true, true, true, true, true, true, true, true, true, true, true, true, true, false, false, false, false, false, false, false, false, false, false, false, false, false, false, false, false, false, false, false, false, false, false, false, false] rfl rfl (by kernel_rfl) (fun _ _ _ h => h) (Or.inl ⟨by rfl, ?_⟩) ?_ ?_
  rotate_left
  · intro w'
    go_simp
    with_reducible rfl
  rotate_left
  · simp only [Act.put, List.setIfInBounds_toArray, List.set_cons_zero, List.set_cons_succ, i64_w, i32_w]
    rfl
  refine pure_ (i := 20) (N := some 57) (v := ?_) (a' := ?_) #[true, true, true, true, true, true, true, true, true, true, true, true, true, true, true, true, true, true, true, true, true, false, false, false, false, false, false, false, false, false, false, false, false, false, false, false, false, false, false, false, false, false, false, false] rfl rfl (by kernel_rfl) (fun _ _ _ h => h) (Or.inl ⟨by rfl, ?_⟩) ?_ ?_
  rotate_left
  · intro w'
    go_simp
    with_reducible rfl
  rotate_left
  · simp only [Act.put, List.setIfInBounds_toArray, List.set_cons_zero, List.set_cons_succ, i64_w, i32_w]
    rfl
  refine pure_ (i := 21) (N := some 58) (v := ?_) (a' := ?_) #[true, true, true, true, true, true, true, true, true, true, true, true, true, true, true, true, true, true, true, true, true, true, false, false, false, false, false, false, false, false, false, false, false, false, false, false, false, false, false, false, false, false, false, false] rfl rfl (by kernel_rfl) (fun _ _ _ h => h) (Or.inl ⟨by rfl, ?_⟩) ?_ ?_
  rotate_left
  · intro w'
    go_simp
    with_reducible rfl
  rotate_left
  · simp only [Act.put, List.setIfInBounds_toArray, List.set_cons_zero, List.set_cons_succ, i64_w, i32_w]
    rfl
  refine pure_ (i := 22) (N := some 59) (v := ?_) (a' := ?_) #[true, true, true, true, true, true, true, true, true, true, true, true, true, true, true, true, true, true, true, true, true, true, true, false, false, false, false, false, false, false, false, false, false, false, false, false, false, false, false, false, false, false, false, false] rfl rfl (by kernel_rfl) (fun _ _ _ h => h) (Or.inl ⟨by rfl, ?_⟩) ?_ ?_
  rotate_left
  · intro w'
    go_simp
    with_reducible rfl
  rotate_left
  · simp only [Act.put, List.setIfInBounds_toArray, List.set_cons_zero, List.set_cons_succ, i64_w, i32_w]
    rfl
  refine pure_ (i := 23) (N := some 60) (v := ?_) (a' := ?_) #[true, true, true, true, true, true, true, true, true, true, true, true, true, true, true, true, true, true, true, true, true, true, true, true, false, false, false, false, false, false, false, false, false, false, false, false, false, false, false, false, false, false, false, false] rfl rfl (by kernel_rfl) (fun _ _ _ h => h) (Or.inl ⟨by rfl, ?_⟩) ?_ ?_
  rotate_left
  · intro w'
    go_simp
    with_reducible rfl
  rotate_left
  · simp only [Act.put, List.setIfInBounds_toArray, List.set_cons_zero, List.set_cons_succ, i64_w, i32_w]
    rfl
  refine pure_ (i := 24) (N := some 61) (v := ?_) (a' := ?_) #[true, true, true, true, true, true, true, true, true, true, true, true, true, true, true, true, true, true, true, true, true, true, true, true, true, false, false, false, false, false, false, false, false, false, false, false, false, false, false, false, false, false, false, false] rfl rfl (by kernel_rfl) (fun _ _ _ h => h) (Or.inl ⟨by rfl, ?_⟩) ?_ ?_
  rotate_left
  · intro w'
    go_simp
    with_reducible rfl
  rotate_left
  · simp only [Act.put, List.setIfInBounds_toArray, List.set_cons_zero, List.set_cons_succ, i64_w, i32_w]
    rfl
  refine pure_ (i := 25) (N := some 62) (v := ?_) (a' := ?_) #[true, true, true, true, true, true, true, true, true, true, true, true, true, true, true, true, true, true, true, true, true, true, true, true, true, true, false, false, false, false, false, false, false, false, false, false, false, false, false, false, false, false, false, false] rfl rfl (by kernel_rfl) (fun _ _ _ h => h) (Or.inl ⟨by rfl, ?_⟩) ?_ ?_
  rotate_left
  · intro w'
    go_simp
    with_reducible rfl
  rotate_left
  · simp only [Act.put, List.setIfInBounds_toArray, List.set_cons_zero, List.set_cons_succ, i64_w, i32_w]
    rfl
  refine pure_ (i := 26) (N := some 63) (v := ?_) (a' := ?_) #[true, true, true, true, true, true, true, true, true, true, true, true, true, true, true, true, true, true, true, true, true, true, true, true, true, true, true, false, false, false, false, false, false, false, false, false, false, false, false, false, false, false, false, false] rfl rfl (by kernel_rfl) (fun _ _ _ h => h) (Or.inl ⟨by rfl, ?_⟩) ?_ ?_
  rotate_left
  · intro w'
    go_simp
    with_reducible rfl
  rotate_left
  · simp only [Act.put, List.setIfInBounds_toArray, List.set_cons_zero, List.set_cons_succ, i64_w, i32_w]
    rfl
  refine pure_ (i := 27) (N := some 64) (v := ?_) (a' := ?_) #[true, true, true, true, true, true, true, true, true, true, true, true, true, true, true, true, true, true, true, true, true, true, true, true, true, true, true, true, false, false, false, false, false, false, false, false, false, false, false, false, false, false, false, false] rfl rfl (by kernel_rfl) (fun _ _ _ h => h) (Or.inl ⟨by rfl, ?_⟩) ?_ ?_
  rotate_left
  · intro w'
    go_simp
    with_reducible rfl
  rotate_left
  · simp only [Act.put, List.setIfInBounds_toArray, List.set_cons_zero, List.set_cons_succ, i64_w, i32_w]
    rfl
  refine pure_ (i := 28) (N := some 65) (v := ?_) (a' := ?_) #[true, true, true, true, true, true, true, true, true, true, true, true, true, true, true, true, true, true, true, true, true, true, true, true, true, true, true, true, true, false, false, false, false, false, false, false, false, false, false, false, false, false, false, false] rfl rfl (by kernel_rfl) (fun _ _ _ h => h) (Or.inl ⟨by rfl, ?_⟩) ?_ ?_
  rotate_left
  · intro w'
    go_simp
    with_reducible rfl
  rotate_left
  · simp only [Act.put, List.setIfInBounds_toArray, List.set_cons_zero, List.set_cons_succ, i64_w, i32_w]
    rfl
  refine pure_ (i := 29) (N := some 66) (v := ?_) (a' := ?_) #[true, true, true, true, true, true, true, true, true, true, true, true, true, true, true, true, true, true, true, true, true, true, true, true, true, true, true, true, true, true, false, false, false, false, false, false, false, false, false, false, false, false, false, false] rfl rfl (by kernel_rfl) (fun _ _ _ h => h) (Or.inl ⟨by rfl, ?_⟩) ?_ ?_
  rotate_left
  · intro w'
    go_simp
    with_reducible rfl
  rotate_left
  · simp only [Act.put, List.setIfInBounds_toArray, List.set_cons_zero, List.set_cons_succ, i64_w, i32_w]
    rfl
  refine pure_ (i := 30) (N := some 67) (v := ?_) (a' := ?_) #[true, true, true, true, true, true, true, true, true, true, true, true, true, true, true, true, true, true, true, true, true, true, true, true, true, true, true, true, true, true, true, false, false, false, false, false, false, false, false, false, false, false, false, false] rfl rfl (by kernel_rfl) (fun _ _ _ h => h) (Or.inl ⟨by rfl, ?_⟩) ?_ ?_
  rotate_left
  · intro w'
    go_simp
    with_reducible rfl
  rotate_left
  · simp only [Act.put, List.setIfInBounds_toArray, List.set_cons_zero, List.set_cons_succ, i64_w, i32_w]
    rfl
  refine pure_ (i := 31) (N := some 68) (v := ?_) (a' := ?_) #[true, true, true, true, true, true, true, true, true, true, true, true, true, true, true, true, true, true, true, true, true, true, true, true, true, true, true, true, true, true, true, true, false, false, false, false, false, false, false, false, false, false, false, false] rfl rfl (by kernel_rfl) (fun _ _ _ h => h) (Or.inl ⟨by rfl, ?_⟩) ?_ ?_
  rotate_left
  · intro w'
    go_simp
    with_reducible rfl
  rotate_left
  · simp only [Act.put, List.setIfInBounds_toArray, List.set_cons_zero, List.set_cons_succ, i64_w, i32_w]
    rfl
  refine pure_ (i := 32) (N := some 69) (v := ?_) (a' := ?_) #[true, true, true, true, true, true, true, true, true, true, true, true, true, true, true, true, true, true, true, true, true, true, true, true, true, true, true, true, true, true, true, true, true, false, false, false, false, false, false, false, false, false, false, false] rfl rfl (by kernel_rfl) (fun _ _ _ h => h) (Or.inl ⟨by rfl, ?_⟩) ?_ ?_
  rotate_left
  · intro w'
    go_simp
    with_reducible rfl
  rotate_left
  · simp only [Act.put, List.setIfInBounds_toArray, List.set_cons_zero, List.set_cons_succ, i64_w, i32_w]
    rfl
  refine pure_ (i := 33) (N := some 70) (v := ?_) (a' := ?_) #[true, true, true, true, true, true, true, true, true, true, true, true, true, true, true, true, true, true, true, true, true, true, true, true, true, true, true, true, true, true, true, true, true, true, false, false, false, false, false, false, false, false, false, false] rfl rfl (by kernel_rfl) (fun _ _ _ h => h) (Or.inl ⟨by rfl, ?_⟩) ?_ ?_
  rotate_left
  · intro w'
    go_simp
    with_reducible rfl
  rotate_left
  · simp only [Act.put, List.setIfInBounds_toArray, List.set_cons_zero, List.set_cons_succ, i64_w, i32_w]
    rfl
  refine pure_ (i := 34) (N := some 71) (v := ?_) (a' := ?_) #[true, true, true, true, true, true, true, true, true, true, true, true, true, true, true, true, true, true, true, true, true, true, true, true, true, true, true, true, true, true, true, true, true, true, true, false, false, false, false, false, false, false, false, false] rfl rfl (by kernel_rfl) (fun _ _ _ h => h) (Or.inl ⟨by rfl, ?_⟩) ?_ ?_
  rotate_left
  · intro w'
    go_simp
    with_reducible rfl
  rotate_left
  · simp only [Act.put, List.setIfInBounds_toArray, List.set_cons_zero, List.set_cons_succ, i64_w, i32_w]
    rfl
  refine pure_ (i := 35) (N := some 72) (v := ?_) (a' := ?_) #[true, true, true, true, true, true, true, true, true, true, true, true, true, true, true, true, true, true, true, true, true, true, true, true, true, true, true, true, true, true, true, true, true, true, true, true, false, false, false, false, false, false, false, false] rfl rfl (by kernel_rfl) (fun _ _ _ h => h) (Or.inl ⟨by rfl, ?_⟩) ?_ ?_
  rotate_left
  · intro w'
    go_simp
    with_reducible rfl
  rotate_left
  · simp only [Act.put, List.setIfInBounds_toArray, List.set_cons_zero, List.set_cons_succ, i64_w, i32_w]
    rfl
  refine pure_ (i := 36) (N := some 73) (v := ?_) (a' := ?_) #[true, true, true, true, true, true, true, true, true, true, true, true, true, true, true, true, true, true, true, true, true, true, true, true, true, true, true, true, true, true, true, true, true, true, true, true, true, false, false, false, false, false, false, false] rfl rfl (by kernel_rfl) (fun _ _ _ h => h) (Or.inl ⟨by rfl, ?_⟩) ?_ ?_
  rotate_left
  · intro w'
    go_simp
    with_reducible rfl
  rotate_left
  · simp only [Act.put, List.setIfInBounds_toArray, List.set_cons_zero, List.set_cons_succ, i64_w, i32_w]
    rfl
  refine pure_ (i := 37) (N := some 74) (v := ?_) (a' := ?_) #[true, true, true, true, true, true, true, true, true, true, true, true, true, true, true, true, true, true, true, true, true, true, true, true, true, true, true, true, true, true, true, true, true, true, true, true, true, true, false, false, false, false, false, false] rfl rfl (by kernel_rfl) (fun _ _ _ h => h) (Or.inl ⟨by rfl, ?_⟩) ?_ ?_
  rotate_left
  · intro w'
    go_simp
    with_reducible rfl
  rotate_left
  · simp only [Act.put, List.setIfInBounds_toArray, List.set_cons_zero, List.set_cons_succ, i64_w, i32_w]
    rfl
  refine pure_ (i := 38) (N := some 75) (v := ?_) (a' := ?_) #[true, true, true, true, true, true, true, true, true, true, true, true, true, true, true, true, true, true, true, true, true, true, true, true, true, true, true, true, true, true, true, true, true, true, true, true, true, true, true, false, false, false, false, false] rfl rfl (by kernel_rfl) (fun _ _ _ h => h) (Or.inl ⟨by rfl, ?_⟩) ?_ ?_
  rotate_left
  · intro w'
    go_simp
    with_reducible rfl
  rotate_left
  · simp only [Act.put, List.setIfInBounds_toArray, List.set_cons_zero, List.set_cons_succ, i64_w, i32_w]
    rfl
  refine pure_ (i := 39) (N := some 76) (v := ?_) (a' := ?_) #[true, true, true, true, true, true, true, true, true, true, true, true, true, true, true, true, true, true, true, true, true, true, true, true, true, true, true, true, true, true, true, true, true, true, true, true, true, true, true, true, false, false, false, false] rfl rfl (by kernel_rfl) (fun _ _ _ h => h) (Or.inl ⟨by rfl, ?_⟩) ?_ ?_
  rotate_left
  · intro w'
    go_simp
    with_reducible rfl
  rotate_left
  · simp only [Act.put, List.setIfInBounds_toArray, List.set_cons_zero, List.set_cons_succ, i64_w, i32_w]
    rfl
  refine pure_ (i := 40) (N := some 77) (v := ?_) (a' := ?_) #[true, true, true, true, true, true, true, true, true, true, true, true, true, true, true, true, true, true, true, true, true, true, true, true, true, true, true, true, true, true, true, true, true, true, true, true, true, true, true, true, true, false, false, false] rfl rfl (by kernel_rfl) (fun _ _ _ h => h) (Or.inl ⟨by rfl, ?_⟩) ?_ ?_
  rotate_left
  · intro w'
    go_simp
    with_reducible rfl
  rotate_left
  · simp only [Act.put, List.setIfInBounds_toArray, List.set_cons_zero, List.set_cons_succ, i64_w, i32_w]
    rfl
  refine pure_ (i := 41) (N := some 78) (v := ?_) (a' := ?_) #[true, true, true, true, true, true, true, true, true, true, true, true, true, true, true, true, true, true, true, true, true, true, true, true, true, true, true, true, true, true, true, true, true, true, true, true, true, true, true, true, true, true, false, false] rfl rfl (by kernel_rfl) (fun _ _ _ h => h) (Or.inl ⟨by rfl, ?_⟩) ?_ ?_
  rotate_left
  · intro w'
    go_simp
    with_reducible rfl
  rotate_left
  · simp only [Act.put, List.setIfInBounds_toArray, List.set_cons_zero, List.set_cons_succ, i64_w, i32_w]
    rfl
  refine pure_ (i := 42) (N := some 79) (v := ?_) (a' := ?_) #[true, true, true, true, true, true, true, true, true, true, true, true, true, true, true, true, true, true, true, true, true, true, true, true, true, true, true, true, true, true, true, true, true, true, true, true, true, true, true, true, true, true, true, false] rfl rfl (by kernel_rfl) (fun _ _ _ h => h) (Or.inl ⟨by rfl, ?_⟩) ?_ ?_
  rotate_left
  · intro w'
    go_simp
    with_reducible rfl
  rotate_left
  · simp only [Act.put, List.setIfInBounds_toArray, List.set_cons_zero, List.set_cons_succ, i64_w, i32_w]
    rfl
  refine pure_ (i := 43) (N := some 0) (v := ?_) (a' := ?_) #[true, true, true, true, true, true, true, true, true, true, true, true, true, true, true, true, true, true, true, true, true, true, true, true, true, true, true, true, true, true, true, true, true, true, true, true, true, true, true, true, true, true, true, true] rfl rfl (by kernel_rfl) (fun _ _ _ h => h) (Or.inl ⟨by rfl, ?_⟩) ?_ ?_
  rotate_left
  · intro w'
    go_simp
    with_reducible rfl
  rotate_left
  · simp only [Act.put, List.setIfInBounds_toArray, List.set_cons_zero, List.set_cons_succ, i64_w, i32_w]
    rfl
  refine done_ (by kernel_rfl) ?_
  go_wp2_with fail
  go_ret
  exact ⟨rfl, hHeld.below⟩
end Go.Proofs.Ytinfjmdcmfpdiaa.Sh
namespace Go.Proofs.Ytinfjmdcmfpdiaa.P
open Go.RowKit
def moatlaw12_shown.f : Option Bool := some true
theorem moatlaw12_shown.calls (r : Bool) (w : World) (h : moatlaw12_shown.f = some r) : Calls Try.prog 10 #[] w fun e w' => e = .returned (.bool r) ∧ Below w.heap.size w w' := by
  injection h with h
  rw [← h]
  exact Sh.shown_any w
end Go.Proofs.Ytinfjmdcmfpdiaa.P

/- The statements' 'few' and EntryAlls: walks. -/
namespace Go.Proofs.Ytinfjmdcmfpdiaa.Lw
open Go.RowKit Go.Proofs.Ytinfjmdcmfpdiaa.Rt Go.Proofs.Ytinfjmdcmfpdiaa.Md Go.Proofs.Ytinfjmdcmfpdiaa.Al Go.Proofs.Ytinfjmdcmfpdiaa.Pc Go.Proofs.Ytinfjmdcmfpdiaa.Fn Go.Proofs.Ytinfjmdcmfpdiaa.Ad Go.Proofs.Ytinfjmdcmfpdiaa.Rm Go.Proofs.YtinfjmdcmfpdiaaW.PrintWords Go.Proofs.YtinfjmdcmfpdiaaW.PrintLast Go.Proofs.YtinfjmdcmfpdiaaW.PrintMore
set_option linter.unusedVariables false
set_option linter.unusedSimpArgs false

set_option maxHeartbeats 1000000 in
set_option maxRecDepth 100000 in
theorem few_any (A0 : Option Addr) (n c0 : Nat) (hn : n ≤ 9223372036854775807) (hc0 : n ≤ c0) (w : World) :
    Calls Try.prog 14 #[.slice A0 n c0] w fun e w' => e = .returned (.slice A0 (min n 5000) c0) ∧ w' = w := by
  by_cases h : n ≤ 5000
  · have e : min n 5000 = n := Nat.min_eq_left h
    rw [e]
    have c1 : min (n : Int) 5000 = (n : Int) := by omega
    go_enter Try.func14, Try.ntmps14
    go_wp2_with fail
    go_ret
    exact ⟨by simp, rfl⟩
  · have e : min n 5000 = 5000 := Nat.min_eq_right (by omega)
    rw [e]
    have c1 : min (n : Int) 5000 = 5000 := by omega
    have c2 : (5000 : Nat) ≤ c0 := by omega
    have c3 : (5000 : Int) ≤ (c0 : Int) := by omega
    go_enter Try.func14, Try.ntmps14
    go_wp2_with fail
    go_ret
    exact ⟨by simp, rfl⟩

theorem few_t (A0 : Option Addr) (c0 : Nat) (l0 : List Int) (hm : l0.length ≤ 9223372036854775807) (hc0 : l0.length ≤ c0) : ∃ t : List Int, t = l0.take 5000 ∧ (Bytes l0 → Bytes t) ∧ t.length ≤ 5000 ∧ t.length ≤ c0 ∧ (∀ w, Kd.C (Kd.int .u8) w A0 l0.length l0 → Kd.C (Kd.int .u8) w A0 t.length t) ∧
    ∀ w, Calls Try.prog 14 #[.slice A0 l0.length c0] w fun e w' => e = .returned (.slice A0 t.length c0) ∧ w' = w := by
  have e : (l0.take 5000).length = min l0.length 5000 := by rw [List.length_take]; omega
  refine ⟨l0.take 5000, rfl, fun h => h.take _, by omega, by omega, fun w h => ?_, fun w => ?_⟩
  · by_cases h5 : 5000 ≤ l0.length
    · exact Kd.C_take h h5
    · rw [List.take_of_length_le (by omega)]; exact h
  · rw [e]; exact few_any A0 l0.length c0 hm hc0 w

theorem allA_le (l : List Int) : (allA l).1.length ≤ 240 := by
  unfold allA
  cases hd : dirO l with
  | none => simp [Al.ansA]
  | some s =>
    have h1 := entsOf_le s
    have h2 := (dir_good hd).2.room
    show (entsOf s).length ≤ 240
    omega

set_option maxHeartbeats 4000000 in
set_option maxRecDepth 100000 in
theorem alls_any (A0 : Option Addr) (c0 : Nat) (l0 : List Int) (n : ByteArray) (w : World) (hb : Bytes l0) (hr0 : Kd.C (Kd.int .u8) w A0 l0.length l0) (hc0 : l0.length ≤ c0) (hn : n.size ≤ maxLen) :
    Calls Try.prog 8 #[.slice A0 l0.length c0, .string n] w fun e w' => e = .returned (.bool true) ∧ Below w.heap.size w w' := by
  obtain ⟨t, -, htb, ht5, htc, htC, htF⟩ := few_t A0 c0 l0 hr0.2.1 hc0
  have HR := Lib.hid (htC w hr0)
  have HB := Lib.hid (htb hb)
  have HF := Lib.hid htF
  obtain ⟨K1, k1⟩ := (all_ev HB.out).rounds
  obtain ⟨K2, k2⟩ := (find_ev HB.out n).rounds
  have hle := allA_le t
  obtain ⟨K3, k3⟩ := (same_ev (allA t).1 hle).rounds
  obtain ⟨Lx, ex, hA⟩ : ∃ Lx ex, allA t = (Lx, ex) := ⟨_, _, rfl⟩
  obtain ⟨fi, fb, hf⟩ : ∃ fi fb, findA t n = (fi, fb) := ⟨_, _, rfl⟩
  rw [hA] at k1 k3 hle
  rw [hf] at k2
  replace k1 := Lib.hid k1
  replace k2 := Lib.hid k2
  replace k3 := Lib.hid k3
  replace hA := Lib.hid hA
  replace hf := Lib.hid hf
  clear hb hr0 htb htC htF
  by_cases hbig : n.size > 1000
  · have b1 : decide ((n.size : Int) > 1000) = true := decide_eq_true (by omega)
    go_enter Try.func8, Try.ntmps8
    go_wp2_with fail
    refine (P.moatlaw12_shown.calls true _ rfl).mono ?_
    rintro e w1 ⟨rfl, hb⟩
    have hB := Lib.hid hb
    clear hb
    go_wp2_with fail
    go_ret
    exact ⟨by simp, hB.out⟩
  · have b1 : decide ((n.size : Int) > 1000) = false := decide_eq_false (by omega)
    have q1 : (ex == ex) = true := beq_self_eq_true _
    have q2 : (fi == fi) = true := beq_self_eq_true _
    have q3 : (fb == fb) = true := beq_self_eq_true _
    go_enter Try.func8, Try.ntmps8
    go_wp2_with fail
    refine (P.moatlaw12_shown.calls true _ rfl).mono ?_
    rintro e w1 ⟨rfl, hb⟩
    have hB := Lib.hid hb
    clear hb
    go_wp2_with fail
    refine (HF.out _).mono ?_
    rintro e w2 ⟨rfl, hw⟩
    subst hw
    go_wp2_with fail
    refine (all_any A0 c0 t _ HB.out (Kd.C_below HR.out hB.out) htc).mono ?_
    rw [hA.out]
    rintro e w3 ⟨v3, rfl, ho3, hb⟩
    obtain ⟨A3, c3, ev3, hc3, hr3⟩ := Kd.R_reads ho3
    subst ev3
    replace hB := Lib.hid (below_step hB.out hb)
    replace hr3 := Lib.hid hr3
    clear ho3 hb
    go_wp2_with fail
    refine (HF.out _).mono ?_
    rintro e w4 ⟨rfl, hw⟩
    subst hw
    go_wp2_with fail
    refine (D.moatref12_All.calls K1 A0 c0 t Lx ex _ (Kd.C_below HR.out hB.out) htc k1.out).mono ?_
    rintro e w5 ⟨v5, rfl, ho5, hb⟩
    obtain ⟨A5, c5, ev5, hc5, hr5⟩ := Kd.R_reads ho5
    subst ev5
    replace hB := Lib.hid (below_step hB.out hb)
    replace hr3 := Lib.hid (Kd.C_below hr3.out hb)
    replace hr5 := Lib.hid hr5
    clear ho5 hb
    go_wp2_with fail
    refine (HF.out _).mono ?_
    rintro e w6 ⟨rfl, hw⟩
    subst hw
    go_wp2_with fail
    refine (find_any A0 c0 t n _ hn HB.out (Kd.C_below HR.out hB.out) htc).mono ?_
    rw [hf.out]
    rintro e w7 ⟨rfl, hb⟩
    replace hB := Lib.hid (below_step hB.out hb)
    replace hr3 := Lib.hid (Kd.C_below hr3.out hb)
    replace hr5 := Lib.hid (Kd.C_below hr5.out hb)
    clear hb
    go_wp2_with fail
    refine (HF.out _).mono ?_
    rintro e w8 ⟨rfl, hw⟩
    subst hw
    go_wp2_with fail
    refine (D.moatref12_Find.calls K2 A0 c0 t n fi fb _ (Kd.C_below HR.out hB.out) htc k2.out).mono ?_
    rintro e w9 ⟨rfl, hb⟩
    replace hB := Lib.hid (below_step hB.out hb)
    replace hr3 := Lib.hid (Kd.C_below hr3.out hb)
    replace hr5 := Lib.hid (Kd.C_below hr5.out hb)
    clear hb
    go_wp2_with fail
    refine (D.moatref12_Same.calls K3 A3 c3 Lx A5 c5 Lx true _ hr3.out hc3 hr5.out hc5 k3.out).mono ?_
    rintro e w10 ⟨rfl, hb⟩
    replace hB := Lib.hid (below_step hB.out (by first | exact hb | exact hb.below))
    clear hb
    go_wp2_with fail
    go_ret
    exact ⟨by simp, hB.out⟩
end Go.Proofs.Ytinfjmdcmfpdiaa.Lw

/- EntryLays: its walk. -/
namespace Go.Proofs.Ytinfjmdcmfpdiaa.Lw
open Go.RowKit Go.Proofs.Ytinfjmdcmfpdiaa.Rt Go.Proofs.Ytinfjmdcmfpdiaa.Md Go.Proofs.Ytinfjmdcmfpdiaa.Al Go.Proofs.Ytinfjmdcmfpdiaa.Pc Go.Proofs.Ytinfjmdcmfpdiaa.Fn Go.Proofs.Ytinfjmdcmfpdiaa.Ad Go.Proofs.Ytinfjmdcmfpdiaa.Rm Go.Proofs.Ytinfjmdcmfpdiaa.Rc Go.Proofs.YtinfjmdcmfpdiaaW.PrintWords Go.Proofs.YtinfjmdcmfpdiaaW.PrintLast Go.Proofs.YtinfjmdcmfpdiaaW.PrintMore
set_option linter.unusedVariables false
set_option linter.unusedSimpArgs false
attribute [local go_sem high] D.eqA23

/-- What stands while the answers are compared. -/
structure LyS (w : World) (n : ByteArray) (ino : Int) (A1 : Option Addr) (c1 : Nat) (L : List Int) (A2 : Option Addr) (c2 : Nat) (gy gz : Nat) (r1 : ByteArray) (r2 : Int) (W : World) : Prop where
  x : W.heap[w.heap.size]? = some (.cells #[.string n, .int .i64 ino] 23 (0, 0))
  l1 : Kd.C (Kd.int .u8) W A1 L.length L
  l2 : Kd.C (Kd.int .u8) W A2 L.length L
  y : W.heap[gy]? = some (.cells #[.string r1, .int .i64 r2] 23 (0, 0))
  z : W.heap[gz]? = some (.cells #[.string r1, .int .i64 r2] 23 (0, 0))
  below : Below w.heap.size w W
section
variable {w W W' : World} {n : ByteArray} {ino : Int} {A1 A2 : Option Addr} {c1 c2 gy gz : Nat} {L : List Int} {r1 : ByteArray} {r2 : Int}
theorem LyS.step (h : LyS w n ino A1 c1 L A2 c2 gy gz r1 r2 W) (hb : Below W.heap.size W W') : LyS w n ino A1 c1 L A2 c2 gy gz r1 r2 W' := ⟨blk_below h.x hb, Kd.C_below h.l1 hb, Kd.C_below h.l2 hb, blk_below h.y hb, blk_below h.z hb, below_step h.below hb⟩
theorem LyS.drew (h : LyS w n ino A1 c1 L A2 c2 gy gz r1 r2 W) : LyS w n ino A1 c1 L A2 c2 gy gz r1 r2 W.drew := h.step (below_drew1 (Below.refl _ _))
theorem LyS.cx (h : LyS w n ino A1 c1 L A2 c2 gy gz r1 r2 W) : W.cell? ⟨w.heap.size, 0, none⟩ = some (.string n) := (blk_cell h.x 0).trans rfl
theorem LyS.cy (h : LyS w n ino A1 c1 L A2 c2 gy gz r1 r2 W) : W.cell? ⟨gy, 0, none⟩ = some (.string r1) ∧ W.cell? ⟨gy, 1, none⟩ = some (.int .i64 r2) := ⟨(blk_cell h.y 0).trans rfl, (blk_cell h.y 1).trans rfl⟩
theorem LyS.cz (h : LyS w n ino A1 c1 L A2 c2 gy gz r1 r2 W) : W.cell? ⟨gz, 0, none⟩ = some (.string r1) ∧ W.cell? ⟨gz, 1, none⟩ = some (.int .i64 r2) := ⟨(blk_cell h.z 0).trans rfl, (blk_cell h.z 1).trans rfl⟩
theorem LyS.cv1 (h : LyS w n ino A1 c1 L A2 c2 gy gz r1 r2 W) : (convert 24 9 (.slice A1 L.length c1)).run Try.prog W = .ok (.string (strOfNums L)) W := Kd.C_string Try.underlying24 Try.underlying5 Try.underlying9 h.l1
theorem LyS.cv2 (h : LyS w n ino A1 c1 L A2 c2 gy gz r1 r2 W) : (convert 24 9 (.slice A2 L.length c2)).run Try.prog W = .ok (.string (strOfNums L)) W := Kd.C_string Try.underlying24 Try.underlying5 Try.underlying9 h.l2
end

set_option maxHeartbeats 8000000 in
set_option maxRecDepth 100000 in
theorem lays_any (A0 : Option Addr) (c0 : Nat) (l0 : List Int) (n : ByteArray) (ino : Int) (w : World) (hb : Bytes l0) (hr0 : Kd.C (Kd.int .u8) w A0 l0.length l0) (hc0 : l0.length ≤ c0) (hn : n.size ≤ maxLen) :
    Calls Try.prog 3 #[.agg #[.string n, .int .i64 ino], .slice A0 l0.length c0] w fun e w' => e = .returned (.bool true) ∧ Below w.heap.size w w' := by
  obtain ⟨t, -, htb, ht5, htc, htC, htF⟩ := few_t A0 c0 l0 hr0.2.1 hc0
  have HR := Lib.hid (htC w hr0)
  have HB := Lib.hid (htb hb)
  have HF := Lib.hid htF
  obtain ⟨rb, hrb⟩ : ∃ rb, rightB n.data.toList = rb := ⟨_, rfl⟩
  have hRb : Hid (P.entry_Right.f n = some rb) := Lib.hid (by unfold P.entry_Right.f; rw [hrb])
  have hRm : Hid (C.moatref12_Right.f 20 n = some rb) := Lib.hid ((rright_eq n).trans (congrArg some hrb))
  obtain ⟨L1, e1, hl⟩ : ∃ L1 e1, La.layA n ino = (L1, e1) := ⟨_, _, rfl⟩
  have HL : Hid (P.entry_Lay.f n ino = some (L1, e1)) := Lib.hid (by unfold P.entry_Lay.f; rw [hl])
  have HM : Hid (P.moatref12_Lay.f n ino = some (L1, e1)) := Lib.hid (by unfold P.moatref12_Lay.f; rw [hl])
  obtain ⟨r1, r2, r3, r4, hta⟩ : ∃ r1 r2 r3 r4, takeA t = (r1, r2, r3, r4) := ⟨_, _, _, _, rfl⟩
  have hT1 : Hid (D.entry_Take.f 1 t = some (r1, r2, r3, r4)) := Lib.hid (by rw [take_eq 1 HB.out (Nat.le_refl _), hta])
  have hT2 : Hid (D.moatref12_Take.f 1 t = some (r1, r2, r3, r4)) := Lib.hid (by rw [rtake_eq 1 HB.out (Nat.le_refl _), hta])
  clear hb hr0 htb htC htF hrb hl hta
  have b0 : n.size ≤ 9223372036854775807 := by unfold maxLen at hn; omega
  by_cases hbig : n.size > 1000
  · have b1 : decide ((n.size : Int) > 1000) = true := decide_eq_true (by omega)
    go_enter Try.func3, Try.ntmps3
    go_wp2_with fail
    refine (P.moatlaw12_shown.calls true _ rfl).mono ?_
    rintro e w1 ⟨rfl, hb⟩
    have hB := Lib.hid (below_step (below_alloc (Below.refl _ _) _) hb)
    have d0 : w1.cell? ⟨w.heap.size, 0, none⟩ = some (.string n) := (blk_cell (blk_below (blk_new w (.cells #[.string n, .int .i64 ino] 23)) hb) 0).trans rfl
    clear hb
    go_wp2_with fail
    go_ret
    exact ⟨by simp, hB.out⟩
  · have b1 : decide ((n.size : Int) > 1000) = false := decide_eq_false (by omega)
    have q1 : (rb == rb) = true := beq_self_eq_true _
    have q2 : ((strOfNums L1).toList == (strOfNums L1).toList) = true := beq_self_eq_true _
    have q3 : (e1 == e1) = true := beq_self_eq_true _
    have q4 : (r1.toList == r1.toList) = true := beq_self_eq_true _
    have q5 : (r2 == r2) = true := beq_self_eq_true _
    have q6 : (r3 == r3) = true := beq_self_eq_true _
    have q7 : (r4 == r4) = true := beq_self_eq_true _
    go_enter Try.func3, Try.ntmps3
    go_wp2_with fail
    refine (P.moatlaw12_shown.calls true _ rfl).mono ?_
    rintro e w1 ⟨rfl, hb⟩
    have hx := Lib.hid (blk_below (blk_new w (.cells #[.string n, .int .i64 ino] 23)) hb)
    have hB := Lib.hid (below_step (below_alloc (Below.refl _ _) _) hb)
    have d0 : w1.cell? ⟨w.heap.size, 0, none⟩ = some (.string n) := (blk_cell hx.out 0).trans rfl
    have d1 : w1.cell? ⟨w.heap.size, 1, none⟩ = some (.int .i64 ino) := (blk_cell hx.out 1).trans rfl
    clear hb
    go_wp2_with fail
    refine (P.entry_Lay.calls n ino L1 e1 _ HL.out).mono ?_
    rintro e w2 ⟨v2, rfl, ho2, hb⟩
    obtain ⟨A1, c1, ev, hc1, hr1⟩ := Kd.R_reads ho2
    subst ev
    clear d0 d1
    replace hx := Lib.hid (blk_below hx.out hb)
    replace hB := Lib.hid (below_step hB.out hb)
    replace hr1 := Lib.hid hr1
    clear hb ho2
    have d0 : w2.cell? ⟨w.heap.size, 0, none⟩ = some (.string n) := (blk_cell hx.out 0).trans rfl
    have d1 : w2.cell? ⟨w.heap.size, 1, none⟩ = some (.int .i64 ino) := (blk_cell hx.out 1).trans rfl
    go_wp2_with fail
    refine (P.moatref12_Lay.calls n ino L1 e1 _ HM.out).mono ?_
    rintro e w3 ⟨v3, rfl, ho3, hb⟩
    obtain ⟨A2, c2, ev, hc2, hr2⟩ := Kd.R_reads ho3
    subst ev
    clear d0 d1
    replace hx := Lib.hid (blk_below hx.out hb)
    replace hB := Lib.hid (below_step hB.out hb)
    replace hr1 := Lib.hid (Kd.C_below hr1.out hb)
    replace hr2 := Lib.hid hr2
    clear hb ho3
    go_wp2_with fail
    refine (HF.out _).mono ?_
    rintro e w4 ⟨rfl, hw⟩
    subst hw
    go_wp2_with fail
    refine (D.entry_Take.calls 1 A0 c0 t r1 r2 r3 r4 _ (Kd.C_below HR.out hB.out) htc hT1.out).mono ?_
    rintro e w5 ⟨rfl, hb⟩
    have hb' := below_alloc hb (.cells #[.string r1, .int .i64 r2] 23)
    have hy := Lib.hid (blk_new w5 (.cells #[.string r1, .int .i64 r2] 23))
    replace hx := Lib.hid (blk_below hx.out hb')
    replace hB := Lib.hid (below_step hB.out hb')
    replace hr1 := Lib.hid (Kd.C_below hr1.out hb')
    replace hr2 := Lib.hid (Kd.C_below hr2.out hb')
    clear hb hb'
    go_wp2_with fail
    refine (HF.out _).mono ?_
    rintro e w6 ⟨rfl, hw⟩
    subst hw
    go_wp2_with fail
    refine (D.moatref12_Take.calls 1 A0 c0 t r1 r2 r3 r4 _ (Kd.C_below HR.out hB.out) htc hT2.out).mono ?_
    rintro e w7 ⟨rfl, hb⟩
    have hS0 : LyS w n ino A1 c1 L1 A2 c2 w5.heap.size w7.heap.size r1 r2 (w7.alloc (.cells #[.string r1, .int .i64 r2] 23)) := by
      have hb' := below_alloc hb (.cells #[.string r1, .int .i64 r2] 23)
      exact ⟨blk_below hx.out hb', Kd.C_below hr1.out hb', Kd.C_below hr2.out hb', blk_below hy.out hb', blk_new w7 _, below_step hB.out hb'⟩
    replace hS0 := Lib.hid hS0
    clear hb hx hy hr1 hr2 hB
    go_wp2_with fail
    replace hS0 := hS0.out
    obtain ⟨gy, hgy⟩ : ∃ g, g = w5.heap.size := ⟨_, rfl⟩
    obtain ⟨gz, hgz⟩ : ∃ g, g = w7.heap.size := ⟨_, rfl⟩
    rw [← hgy, ← hgz] at hS0
    rw [← hgy, ← hgz]
    clear hgy hgz
    refine start_ (n := 38) (S := LyS w n ino A1 c1 L1 A2 c2 gy gz r1 r2) (ds := []) #[false, false, false, false, false, false, false, false, false, false, false, false, false, false, false, false, false, false, false, false, false, false, false, false, false, false, false, false, false, false, false, false, false, false, false, false, false, false] (by kernel_rfl) rfl rfl hS0.drew (fun hHeld => ?_)
    refine pure_ (i := 0) (N := some 46) (v := ?_) (a' := ?_) #[true, false, false, false, false, false, false, false, false, false, false, false, false, false, false, false, false, false, false, false, false, false, false, false, false, false, false, false, false, false, false, false, false, false, false, false, false, false] rfl rfl (by kernel_rfl) (fun _ _ _ h => h) (Or.inl ⟨by rfl, ?_⟩) ?_ ?_
    rotate_left
    · intro w'
      go_simp
      with_reducible rfl
    rotate_left
    · simp only [Act.put, List.setIfInBounds_toArray, List.set_cons_zero, List.set_cons_succ, i64_w, i32_w]
      rfl
    refine pure_ (i := 1) (N := some 47) (v := ?_) (a' := ?_) #[true, true, false, false, false, false, false, false, false, false, false, false, false, false, false, false, false, false, false, false, false, false, false, false, false, false, false, false, false, false, false, false, false, false, false, false, false, false] rfl rfl (by kernel_rfl) (fun _ _ _ h => h) (Or.inl ⟨by rfl, ?_⟩) ?_ ?_
    rotate_left
    · intro w'
      go_simp
      with_reducible rfl
    rotate_left
    · simp only [Act.put, List.setIfInBounds_toArray, List.set_cons_zero, List.set_cons_succ, i64_w, i32_w]
      rfl
    refine pure_ (i := 2) (N := some 48) (v := ?_) (a' := ?_) #[true, true, true, false, false, false, false, false, false, false, false, false, false, false, false, false, false, false, false, false, false, false, false, false, false, false, false, false, false, false, false, false, false, false, false, false, false, false] rfl rfl (by kernel_rfl) (fun _ _ _ h => h) (Or.inl ⟨by rfl, ?_⟩) ?_ ?_
    rotate_left
    · intro w'
      go_simp
      with_reducible rfl
    rotate_left
    · simp only [Act.put, List.setIfInBounds_toArray, List.set_cons_zero, List.set_cons_succ, i64_w, i32_w]
      rfl
    refine take_ (i := 3) (N := some 49) (v := ?_) (a' := ?_) #[true, true, true, true, false, false, false, false, false, false, false, false, false, false, false, false, false, false, false, false, false, false, false, false, false, false, false, false, false, false, false, false, false, false, false, false, false, false] rfl rfl (by kernel_rfl) (fun _ _ _ h => h) (Or.inl ⟨by rfl, ?_⟩) hHeld ?_ ?_
    rotate_left
    · rintro w' hS
      have hcv := hS.cx
      go_simp
      with_reducible rfl
    rotate_left
    · simp only [Act.put, List.setIfInBounds_toArray, List.set_cons_zero, List.set_cons_succ, i64_w, i32_w]
      rfl
    refine pure_ (i := 5) (N := some 51) (v := ?_) (a' := ?_) #[true, true, true, true, false, true, false, false, false, false, false, false, false, false, false, false, false, false, false, false, false, false, false, false, false, false, false, false, false, false, false, false, false, false, false, false, false, false] rfl rfl (by kernel_rfl) (fun _ _ _ h => h) (Or.inl ⟨by rfl, ?_⟩) ?_ ?_
    rotate_left
    · intro w'
      go_simp
      with_reducible rfl
    rotate_left
    · simp only [Act.put, List.setIfInBounds_toArray, List.set_cons_zero, List.set_cons_succ, i64_w, i32_w]
      rfl
    refine take_ (i := 6) (N := some 52) (v := ?_) (a' := ?_) #[true, true, true, true, false, true, true, false, false, false, false, false, false, false, false, false, false, false, false, false, false, false, false, false, false, false, false, false, false, false, false, false, false, false, false, false, false, false] rfl rfl (by kernel_rfl) (fun _ _ _ h => h) (Or.inl ⟨by rfl, ?_⟩) hHeld ?_ ?_
    rotate_left
    · rintro w' hS
      have hcv := hS.cx
      go_simp
      with_reducible rfl
    rotate_left
    · simp only [Act.put, List.setIfInBounds_toArray, List.set_cons_zero, List.set_cons_succ, i64_w, i32_w]
      rfl
    refine one_ (i := 4) (N := some 50) #[true, true, true, true, true, true, true, false, false, false, false, false, false, false, false, false, false, false, false, false, false, false, false, false, false, false, false, false, false, false, false, false, false, false, false, false, false, false] rfl rfl (by kernel_rfl) (by decide) (fun K hK => ?_)
    refine goes_ Try.func16 (by kernel_rfl) rfl #[.string n] (by rfl) rfl rfl (by (try simp only [List.map_toArray, List.map_cons, List.map_nil]); first | done | rfl) ?_
    with_reducible refine (P.entry_Right.calls n rb _ hRb.out).mono ?_
    rintro e w9 ⟨rfl, hb⟩
    refine ⟨_, rfl, ?_⟩
    refine hK.out _ _ (hHeld.step hb) (fun hHeld => ?_)
    clear hK K hb
    refine norm_ (a' := ?_) ?_ ?_
    rotate_left
    · show Act.put _ (some 50) _ = _
      simp only [Act.put, List.setIfInBounds_toArray, List.set_cons_zero, List.set_cons_succ, i64_w, i32_w]
      rfl
    refine one_ (i := 7) (N := some 53) #[true, true, true, true, true, true, true, true, false, false, false, false, false, false, false, false, false, false, false, false, false, false, false, false, false, false, false, false, false, false, false, false, false, false, false, false, false, false] rfl rfl (by kernel_rfl) (by decide) (fun K hK => ?_)
    refine goes_ Try.func17 (by kernel_rfl) rfl #[.string n] (by rfl) rfl rfl (by (try simp only [List.map_toArray, List.map_cons, List.map_nil]); first | done | rfl) ?_
    with_reducible refine (C.moatref12_Right.calls 20 n rb _ hRm.out).mono ?_
    rintro e w9 ⟨rfl, hb⟩
    refine ⟨_, rfl, ?_⟩
    refine hK.out _ _ (hHeld.step hb.below) (fun hHeld => ?_)
    clear hK K hb
    refine norm_ (a' := ?_) ?_ ?_
    rotate_left
    · show Act.put _ (some 53) _ = _
      simp only [Act.put, List.setIfInBounds_toArray, List.set_cons_zero, List.set_cons_succ, i64_w, i32_w]
      rfl
    refine pure_ (i := 8) (N := some 54) (v := ?_) (a' := ?_) #[true, true, true, true, true, true, true, true, true, false, false, false, false, false, false, false, false, false, false, false, false, false, false, false, false, false, false, false, false, false, false, false, false, false, false, false, false, false] rfl rfl (by kernel_rfl) (fun _ _ _ h => h) (Or.inl ⟨by rfl, ?_⟩) ?_ ?_
    rotate_left
    · intro w'
      go_simp
      with_reducible rfl
    rotate_left
    · simp only [Act.put, List.setIfInBounds_toArray, List.set_cons_zero, List.set_cons_succ, i64_w, i32_w]
      rfl
    refine pure_ (i := 9) (N := some 55) (v := ?_) (a' := ?_) #[true, true, true, true, true, true, true, true, true, true, false, false, false, false, false, false, false, false, false, false, false, false, false, false, false, false, false, false, false, false, false, false, false, false, false, false, false, false] rfl rfl (by kernel_rfl) (fun _ _ _ h => h) (Or.inl ⟨by rfl, ?_⟩) ?_ ?_
    rotate_left
    · intro w'
      go_simp
      with_reducible rfl
    rotate_left
    · simp only [Act.put, List.setIfInBounds_toArray, List.set_cons_zero, List.set_cons_succ, i64_w, i32_w]
      rfl
    refine pure_ (i := 10) (N := some 56) (v := ?_) (a' := ?_) #[true, true, true, true, true, true, true, true, true, true, true, false, false, false, false, false, false, false, false, false, false, false, false, false, false, false, false, false, false, false, false, false, false, false, false, false, false, false] rfl rfl (by kernel_rfl) (fun _ _ _ h => h) (Or.inl ⟨by rfl, ?_⟩) ?_ ?_
    rotate_left
    · intro w'
      go_simp
      with_reducible rfl
    rotate_left
    · simp only [Act.put, List.setIfInBounds_toArray, List.set_cons_zero, List.set_cons_succ, i64_w, i32_w]
      rfl
    refine pure_ (i := 11) (N := some 57) (v := ?_) (a' := ?_) #[true, true, true, true, true, true, true, true, true, true, true, true, false, false, false, false, false, false, false, false, false, false, false, false, false, false, false, false, false, false, false, false, false, false, false, false, false, false] rfl rfl (by kernel_rfl) (fun _ _ _ h => h) (Or.inl ⟨by rfl, ?_⟩) ?_ ?_
    rotate_left
    · intro w'
      go_simp
      with_reducible rfl
    rotate_left
    · simp only [Act.put, List.setIfInBounds_toArray, List.set_cons_zero, List.set_cons_succ, i64_w, i32_w]
      rfl
    refine take_ (i := 12) (N := some 58) (v := ?_) (a' := ?_) #[true, true, true, true, true, true, true, true, true, true, true, true, true, false, false, false, false, false, false, false, false, false, false, false, false, false, false, false, false, false, false, false, false, false, false, false, false, false] rfl rfl (by kernel_rfl) (fun _ _ _ h => h) (Or.inl ⟨by rfl, ?_⟩) hHeld ?_ ?_
    rotate_left
    · rintro w' hS
      have hcv := hS.cv1
      go_simp
      with_reducible rfl
    rotate_left
    · simp only [Act.put, List.setIfInBounds_toArray, List.set_cons_zero, List.set_cons_succ, i64_w, i32_w]
      rfl
    refine pure_ (i := 13) (N := some 59) (v := ?_) (a' := ?_) #[true, true, true, true, true, true, true, true, true, true, true, true, true, true, false, false, false, false, false, false, false, false, false, false, false, false, false, false, false, false, false, false, false, false, false, false, false, false] rfl rfl (by kernel_rfl) (fun _ _ _ h => h) (Or.inl ⟨by rfl, ?_⟩) ?_ ?_
    rotate_left
    · intro w'
      go_simp
      with_reducible rfl
    rotate_left
    · simp only [Act.put, List.setIfInBounds_toArray, List.set_cons_zero, List.set_cons_succ, i64_w, i32_w]
      rfl
    refine take_ (i := 14) (N := some 60) (v := ?_) (a' := ?_) #[true, true, true, true, true, true, true, true, true, true, true, true, true, true, true, false, false, false, false, false, false, false, false, false, false, false, false, false, false, false, false, false, false, false, false, false, false, false] rfl rfl (by kernel_rfl) (fun _ _ _ h => h) (Or.inl ⟨by rfl, ?_⟩) hHeld ?_ ?_
    rotate_left
    · rintro w' hS
      have hcv := hS.cv2
      go_simp
      with_reducible rfl
    rotate_left
    · simp only [Act.put, List.setIfInBounds_toArray, List.set_cons_zero, List.set_cons_succ, i64_w, i32_w]
      rfl
    refine pure_ (i := 15) (N := some 61) (v := ?_) (a' := ?_) #[true, true, true, true, true, true, true, true, true, true, true, true, true, true, true, true, false, false, false, false, false, false, false, false, false, false, false, false, false, false, false, false, false, false, false, false, false, false] rfl rfl (by kernel_rfl) (fun _ _ _ h => h) (Or.inl ⟨by rfl, ?_⟩) ?_ ?_
    rotate_left
    · intro w'
      go_simp
      with_reducible rfl
    rotate_left
    · simp only [Act.put, List.setIfInBounds_toArray, List.set_cons_zero, List.set_cons_succ, i64_w, i32_w]
      rfl
    refine pure_ (i := 16) (N := some 62) (v := ?_) (a' := ?_) #[true, true, true, true, true, true, true, true, true, true, true, true, true, true, true, true, true, false, false, false, false, false, false, false, false, false, false, false, false, false, false, false, false, false, false, false, false, false] rfl rfl (by kernel_rfl) (fun _ _ _ h => h) (Or.inl ⟨by rfl, ?_⟩) ?_ ?_
    rotate_left
    · intro w'
      go_simp
      with_reducible rfl
    rotate_left
    · simp only [Act.put, List.setIfInBounds_toArray, List.set_cons_zero, List.set_cons_succ, i64_w, i32_w]
      rfl
    refine pure_ (i := 17) (N := some 63) (v := ?_) (a' := ?_) #[true, true, true, true, true, true, true, true, true, true, true, true, true, true, true, true, true, true, false, false, false, false, false, false, false, false, false, false, false, false, false, false, false, false, false, false, false, false] rfl rfl (by kernel_rfl) (fun _ _ _ h => h) (Or.inl ⟨by rfl, ?_⟩) ?_ ?_
    rotate_left
    · intro w'
      go_simp
      with_reducible rfl
    rotate_left
    · simp only [Act.put, List.setIfInBounds_toArray, List.set_cons_zero, List.set_cons_succ, i64_w, i32_w]
      rfl
    refine pure_ (i := 18) (N := some 64) (v := ?_) (a' := ?_) #[true, true, true, true, true, true, true, true, true, true, true, true, true, true, true, true, true, true, true, false, false, false, false, false, false, false, false, false, false, false, false, false, false, false, false, false, false, false] rfl rfl (by kernel_rfl) (fun _ _ _ h => h) (Or.inl ⟨by rfl, ?_⟩) ?_ ?_
    rotate_left
    · intro w'
      go_simp
      with_reducible rfl
    rotate_left
    · simp only [Act.put, List.setIfInBounds_toArray, List.set_cons_zero, List.set_cons_succ, i64_w, i32_w]
      rfl
    refine pure_ (i := 19) (N := some 65) (v := ?_) (a' := ?_) #[true, true, true, true, true, true, true, true, true, true, true, true, true, true, true, true, true, true, true, true, false, false, false, false, false, false, false, false, false, false, false, false, false, false, false, false, false, false] rfl rfl (by kernel_rfl) (fun _ _ _ h => h) (Or.inl ⟨by rfl, ?_⟩) ?_ ?_
    rotate_left
    · intro w'
      go_simp
      with_reducible rfl
    rotate_left
    · simp only [Act.put, List.setIfInBounds_toArray, List.set_cons_zero, List.set_cons_succ, i64_w, i32_w]
      rfl
    refine pure_ (i := 20) (N := some 66) (v := ?_) (a' := ?_) #[true, true, true, true, true, true, true, true, true, true, true, true, true, true, true, true, true, true, true, true, true, false, false, false, false, false, false, false, false, false, false, false, false, false, false, false, false, false] rfl rfl (by kernel_rfl) (fun _ _ _ h => h) (Or.inl ⟨by rfl, ?_⟩) ?_ ?_
    rotate_left
    · intro w'
      go_simp
      with_reducible rfl
    rotate_left
    · simp only [Act.put, List.setIfInBounds_toArray, List.set_cons_zero, List.set_cons_succ, i64_w, i32_w]
      rfl
    refine pure_ (i := 21) (N := some 67) (v := ?_) (a' := ?_) #[true, true, true, true, true, true, true, true, true, true, true, true, true, true, true, true, true, true, true, true, true, true, false, false, false, false, false, false, false, false, false, false, false, false, false, false, false, false] rfl rfl (by kernel_rfl) (fun _ _ _ h => h) (Or.inl ⟨by rfl, ?_⟩) ?_ ?_
    rotate_left
    · intro w'
      go_simp
      with_reducible rfl
    rotate_left
    · simp only [Act.put, List.setIfInBounds_toArray, List.set_cons_zero, List.set_cons_succ, i64_w, i32_w]
      rfl
    refine pure_ (i := 22) (N := some 68) (v := ?_) (a' := ?_) #[true, true, true, true, true, true, true, true, true, true, true, true, true, true, true, true, true, true, true, true, true, true, true, false, false, false, false, false, false, false, false, false, false, false, false, false, false, false] rfl rfl (by kernel_rfl) (fun _ _ _ h => h) (Or.inl ⟨by rfl, ?_⟩) ?_ ?_
    rotate_left
    · intro w'
      go_simp
      with_reducible rfl
    rotate_left
    · simp only [Act.put, List.setIfInBounds_toArray, List.set_cons_zero, List.set_cons_succ, i64_w, i32_w]
      rfl
    refine take_ (i := 23) (N := some 69) (v := ?_) (a' := ?_) #[true, true, true, true, true, true, true, true, true, true, true, true, true, true, true, true, true, true, true, true, true, true, true, true, false, false, false, false, false, false, false, false, false, false, false, false, false, false] rfl rfl (by kernel_rfl) (fun _ _ _ h => h) (Or.inl ⟨by rfl, ?_⟩) hHeld ?_ ?_
    rotate_left
    · rintro w' hS
      obtain ⟨g0, g1⟩ := hS.cy
      go_simp
      with_reducible rfl
    rotate_left
    · simp only [Act.put, List.setIfInBounds_toArray, List.set_cons_zero, List.set_cons_succ, i64_w, i32_w]
      rfl
    refine take_ (i := 24) (N := some 70) (v := ?_) (a' := ?_) #[true, true, true, true, true, true, true, true, true, true, true, true, true, true, true, true, true, true, true, true, true, true, true, true, true, false, false, false, false, false, false, false, false, false, false, false, false, false] rfl rfl (by kernel_rfl) (fun _ _ _ h => h) (Or.inl ⟨by rfl, ?_⟩) hHeld ?_ ?_
    rotate_left
    · rintro w' hS
      obtain ⟨g0, g1⟩ := hS.cz
      go_simp
      with_reducible rfl
    rotate_left
    · simp only [Act.put, List.setIfInBounds_toArray, List.set_cons_zero, List.set_cons_succ, i64_w, i32_w]
      rfl
    refine pure_ (i := 25) (N := some 71) (v := ?_) (a' := ?_) #[true, true, true, true, true, true, true, true, true, true, true, true, true, true, true, true, true, true, true, true, true, true, true, true, true, true, false, false, false, false, false, false, false, false, false, false, false, false] rfl rfl (by kernel_rfl) (fun _ _ _ h => h) (Or.inl ⟨by rfl, ?_⟩) ?_ ?_
    rotate_left
    · intro w'
      go_simp
      with_reducible rfl
    rotate_left
    · simp only [Act.put, List.setIfInBounds_toArray, List.set_cons_zero, List.set_cons_succ, i64_w, i32_w]
      rfl
    refine pure_ (i := 26) (N := some 72) (v := ?_) (a' := ?_) #[true, true, true, true, true, true, true, true, true, true, true, true, true, true, true, true, true, true, true, true, true, true, true, true, true, true, true, false, false, false, false, false, false, false, false, false, false, false] rfl rfl (by kernel_rfl) (fun _ _ _ h => h) (Or.inl ⟨by rfl, ?_⟩) ?_ ?_
    rotate_left
    · intro w'
      go_simp
      with_reducible rfl
    rotate_left
    · simp only [Act.put, List.setIfInBounds_toArray, List.set_cons_zero, List.set_cons_succ, i64_w, i32_w]
      rfl
    refine pure_ (i := 27) (N := some 73) (v := ?_) (a' := ?_) #[true, true, true, true, true, true, true, true, true, true, true, true, true, true, true, true, true, true, true, true, true, true, true, true, true, true, true, true, false, false, false, false, false, false, false, false, false, false] rfl rfl (by kernel_rfl) (fun _ _ _ h => h) (Or.inl ⟨by rfl, ?_⟩) ?_ ?_
    rotate_left
    · intro w'
      go_simp
      with_reducible rfl
    rotate_left
    · simp only [Act.put, List.setIfInBounds_toArray, List.set_cons_zero, List.set_cons_succ, i64_w, i32_w]
      rfl
    refine pure_ (i := 28) (N := some 74) (v := ?_) (a' := ?_) #[true, true, true, true, true, true, true, true, true, true, true, true, true, true, true, true, true, true, true, true, true, true, true, true, true, true, true, true, true, false, false, false, false, false, false, false, false, false] rfl rfl (by kernel_rfl) (fun _ _ _ h => h) (Or.inl ⟨by rfl, ?_⟩) ?_ ?_
    rotate_left
    · intro w'
      go_simp
      with_reducible rfl
    rotate_left
    · simp only [Act.put, List.setIfInBounds_toArray, List.set_cons_zero, List.set_cons_succ, i64_w, i32_w]
      rfl
    refine pure_ (i := 29) (N := some 75) (v := ?_) (a' := ?_) #[true, true, true, true, true, true, true, true, true, true, true, true, true, true, true, true, true, true, true, true, true, true, true, true, true, true, true, true, true, true, false, false, false, false, false, false, false, false] rfl rfl (by kernel_rfl) (fun _ _ _ h => h) (Or.inl ⟨by rfl, ?_⟩) ?_ ?_
    rotate_left
    · intro w'
      go_simp
      with_reducible rfl
    rotate_left
    · simp only [Act.put, List.setIfInBounds_toArray, List.set_cons_zero, List.set_cons_succ, i64_w, i32_w]
      rfl
    refine pure_ (i := 30) (N := some 76) (v := ?_) (a' := ?_) #[true, true, true, true, true, true, true, true, true, true, true, true, true, true, true, true, true, true, true, true, true, true, true, true, true, true, true, true, true, true, true, false, false, false, false, false, false, false] rfl rfl (by kernel_rfl) (fun _ _ _ h => h) (Or.inl ⟨by rfl, ?_⟩) ?_ ?_
    rotate_left
    · intro w'
      go_simp
      with_reducible rfl
    rotate_left
    · simp only [Act.put, List.setIfInBounds_toArray, List.set_cons_zero, List.set_cons_succ, i64_w, i32_w]
      rfl
    refine pure_ (i := 31) (N := some 77) (v := ?_) (a' := ?_) #[true, true, true, true, true, true, true, true, true, true, true, true, true, true, true, true, true, true, true, true, true, true, true, true, true, true, true, true, true, true, true, true, false, false, false, false, false, false] rfl rfl (by kernel_rfl) (fun _ _ _ h => h) (Or.inl ⟨by rfl, ?_⟩) ?_ ?_
    rotate_left
    · intro w'
      go_simp
      with_reducible rfl
    rotate_left
    · simp only [Act.put, List.setIfInBounds_toArray, List.set_cons_zero, List.set_cons_succ, i64_w, i32_w]
      rfl
    refine pure_ (i := 32) (N := some 78) (v := ?_) (a' := ?_) #[true, true, true, true, true, true, true, true, true, true, true, true, true, true, true, true, true, true, true, true, true, true, true, true, true, true, true, true, true, true, true, true, true, false, false, false, false, false] rfl rfl (by kernel_rfl) (fun _ _ _ h => h) (Or.inl ⟨by rfl, ?_⟩) ?_ ?_
    rotate_left
    · intro w'
      go_simp
      with_reducible rfl
    rotate_left
    · simp only [Act.put, List.setIfInBounds_toArray, List.set_cons_zero, List.set_cons_succ, i64_w, i32_w]
      rfl
    refine pure_ (i := 33) (N := some 79) (v := ?_) (a' := ?_) #[true, true, true, true, true, true, true, true, true, true, true, true, true, true, true, true, true, true, true, true, true, true, true, true, true, true, true, true, true, true, true, true, true, true, false, false, false, false] rfl rfl (by kernel_rfl) (fun _ _ _ h => h) (Or.inl ⟨by rfl, ?_⟩) ?_ ?_
    rotate_left
    · intro w'
      go_simp
      with_reducible rfl
    rotate_left
    · simp only [Act.put, List.setIfInBounds_toArray, List.set_cons_zero, List.set_cons_succ, i64_w, i32_w]
      rfl
    refine pure_ (i := 34) (N := some 80) (v := ?_) (a' := ?_) #[true, true, true, true, true, true, true, true, true, true, true, true, true, true, true, true, true, true, true, true, true, true, true, true, true, true, true, true, true, true, true, true, true, true, true, false, false, false] rfl rfl (by kernel_rfl) (fun _ _ _ h => h) (Or.inl ⟨by rfl, ?_⟩) ?_ ?_
    rotate_left
    · intro w'
      go_simp
      with_reducible rfl
    rotate_left
    · simp only [Act.put, List.setIfInBounds_toArray, List.set_cons_zero, List.set_cons_succ, i64_w, i32_w]
      rfl
    refine pure_ (i := 35) (N := some 81) (v := ?_) (a' := ?_) #[true, true, true, true, true, true, true, true, true, true, true, true, true, true, true, true, true, true, true, true, true, true, true, true, true, true, true, true, true, true, true, true, true, true, true, true, false, false] rfl rfl (by kernel_rfl) (fun _ _ _ h => h) (Or.inl ⟨by rfl, ?_⟩) ?_ ?_
    rotate_left
    · intro w'
      go_simp
      with_reducible rfl
    rotate_left
    · simp only [Act.put, List.setIfInBounds_toArray, List.set_cons_zero, List.set_cons_succ, i64_w, i32_w]
      rfl
    refine pure_ (i := 36) (N := some 82) (v := ?_) (a' := ?_) #[true, true, true, true, true, true, true, true, true, true, true, true, true, true, true, true, true, true, true, true, true, true, true, true, true, true, true, true, true, true, true, true, true, true, true, true, true, false] rfl rfl (by kernel_rfl) (fun _ _ _ h => h) (Or.inl ⟨by rfl, ?_⟩) ?_ ?_
    rotate_left
    · intro w'
      go_simp
      with_reducible rfl
    rotate_left
    · simp only [Act.put, List.setIfInBounds_toArray, List.set_cons_zero, List.set_cons_succ, i64_w, i32_w]
      rfl
    refine pure_ (i := 37) (N := some 4) (v := ?_) (a' := ?_) #[true, true, true, true, true, true, true, true, true, true, true, true, true, true, true, true, true, true, true, true, true, true, true, true, true, true, true, true, true, true, true, true, true, true, true, true, true, true] rfl rfl (by kernel_rfl) (fun _ _ _ h => h) (Or.inl ⟨by rfl, ?_⟩) ?_ ?_
    rotate_left
    · intro w'
      go_simp
      with_reducible rfl
    rotate_left
    · simp only [Act.put, List.setIfInBounds_toArray, List.set_cons_zero, List.set_cons_succ, i64_w, i32_w]
      rfl
    refine done_ (by kernel_rfl) ?_
    go_wp2_with fail
    go_ret
    exact ⟨rfl, hHeld.below⟩
end Go.Proofs.Ytinfjmdcmfpdiaa.Lw
