/- Walks and plain laws on which the claim stands, several texts joined. -/
import Derived.Test.YtinfjmdcmfpdiaaM4

/- The statements' examples: moatlaw12.shown answers true. -/
namespace Go.Proofs.Ytinfjmdcmfpdiaa.Sh
open Go.RowKit Go.Proofs.Ytinfjmdcmfpdiaa.Rt Go.Proofs.Ytinfjmdcmfpdiaa.Md Go.Proofs.Ytinfjmdcmfpdiaa.Al Go.Proofs.Ytinfjmdcmfpdiaa.Pc Go.Proofs.Ytinfjmdcmfpdiaa.Fn Go.Proofs.Ytinfjmdcmfpdiaa.Cp Go.Proofs.Ytinfjmdcmfpdiaa.Ad Go.Proofs.Ytinfjmdcmfpdiaa.Rm Go.Proofs.YtinfjmdcmfpdiaaW.PrintWords Go.Proofs.YtinfjmdcmfpdiaaW.PrintLast Go.Proofs.YtinfjmdcmfpdiaaW.PrintMore
set_option linter.unusedVariables false
set_option linter.unusedSimpArgs false

/-- Two rows that are read as texts. -/
structure ShS (w : World) (A1 : Option Addr) (c1 : Nat) (L1 : List Int) (A3 : Option Addr) (c3 : Nat) (L3 : List Int) (W : World) : Prop where
  r1 : Kd.C (Kd.int .u8) W A1 L1.length L1
  r3 : Kd.C (Kd.int .u8) W A3 L3.length L3
  below : Below w.heap.size w W
variable {w W W' : World} {A1 A3 : Option Addr} {c1 c3 : Nat} {L1 L3 : List Int}
theorem ShS.drew (h : ShS w A1 c1 L1 A3 c3 L3 W) : ShS w A1 c1 L1 A3 c3 L3 W.drew := ⟨Kd.C_drew h.r1, Kd.C_drew h.r3, below_drew1 h.below⟩
theorem ShS.grown (h : ShS w A1 c1 L1 A3 c3 L3 W) (hb : Below w.heap.size w W') (hg : W.grownBy W' none) : ShS w A1 c1 L1 A3 c3 L3 W' := by
  have hB : Below W.heap.size W W' := ⟨hg.os, hg.tape, hg.output, hg.size, fun i hi => hg.block i hi (by simp)⟩
  exact ⟨Kd.C_below h.r1 hB, Kd.C_below h.r3 hB, hb⟩
theorem ShS.cv1 (h : ShS w A1 c1 L1 A3 c3 L3 W) : (convert 24 9 (.slice A1 L1.length c1)).run Try.prog W = .ok (.string (strOfNums L1)) W := Kd.C_string Try.underlying24 Try.underlying5 Try.underlying9 h.r1
theorem ShS.cv3 (h : ShS w A1 c1 L1 A3 c3 L3 W) : (convert 24 9 (.slice A3 L3.length c3)).run Try.prog W = .ok (.string (strOfNums L3)) W := Kd.C_string Try.underlying24 Try.underlying5 Try.underlying9 h.r3

def bA : ByteArray := ⟨#[97]⟩
def bB : ByteArray := ⟨#[98]⟩
theorem okA : okE (bA, 5) := ⟨by rfl, by decide, by decide⟩
theorem okB : okE (bB, 6) := ⟨by rfl, by decide, by decide⟩
theorem good0 : Md.Good [] := ⟨.nil, by simp [names], by simp⟩
theorem good1 : Md.Good [some (bA, 5)] := ⟨.one okA, by simp [names], by simp⟩
theorem neAB : bA ≠ bB := by intro h; have := congrArg (fun b : ByteArray => b.data.toList) h; simp [bA, bB] at this
theorem good2 : Md.Good [some (bA, 5), some (bB, 6)] := ⟨(AllOk.one okA).append (.one okB), by simp [names, neAB], by simp⟩
theorem good3 : Md.Good [none, some (bB, 6)] := ⟨(AllOk.none).append (.one okB), by simp [names], by simp⟩
theorem addA_good {s : List Sl} (h : Md.Good s) (n : ByteArray) (i : Int) : addA (bytesS s) n i = addS s n i := by unfold addA; rw [good_dir h]
theorem removeA_good {s : List Sl} (h : Md.Good s) (n : ByteArray) : removeA (bytesS s) n = removeS s n := by unfold removeA; rw [good_dir h]
theorem add1 : addA [] bA 5 = (bytesS [some (bA, 5)], 0) := by
  have := addA_good good0 bA 5
  rw [bytesS_nil] at this
  rw [this]
  unfold addS
  rw [layA_right okA.1 okA.2.1 okA.2.2, if_pos rfl, if_neg (by decide)]
  rfl
theorem add2 : addA (bytesS [some (bA, 5)]) bB 6 = (bytesS [some (bA, 5), some (bB, 6)], 0) := by
  rw [addA_good good1]
  have hp : placeA [some (bA, 5)] bB = -1 := by
    show (if bA = bB then ((0 : Nat) : Int) else -1) = -1
    rw [if_neg neAB]
  unfold addS
  rw [layA_right okB.1 okB.2.1 okB.2.2, if_pos rfl, hp, if_neg (by decide)]
  rfl
theorem rm1 : removeA (bytesS [some (bA, 5), some (bB, 6)]) bA = (bytesS [none, some (bB, 6)], 0) := by
  rw [removeA_good good2]
  have hp : placeA [some (bA, 5), some (bB, 6)] bA = 0 := by
    have h : placeA [some (bA, 5), some (bB, 6)] bA = if bA = bA then ((0 : Nat) : Int) else placeGo bA [some (bB, 6)] 1 := rfl
    rw [h, if_pos rfl]; rfl
  unfold removeS
  rw [hp, if_pos (by decide)]
  rfl
theorem rm2 : removeA (bytesS [none, some (bB, 6)]) bB = ([], 0) := by
  rw [removeA_good good3]
  have hp : placeA [none, some (bB, 6)] bB = 1 := by
    have h : placeA [none, some (bB, 6)] bB = if bB = bB then ((1 : Nat) : Int) else placeGo bB [] 2 := rfl
    rw [h, if_pos rfl]; rfl
  unfold removeS
  rw [hp, if_pos (by decide)]
  rfl
theorem text1 : ((strOfNums (La.layL bA 5)).toList == ((⟨#[1, 229, 5, 97]⟩ : ByteArray) ++ strOfNums (List.replicate 12 0)).toList) = true := by
  rw [beq_iff_eq, Lib.toList_data, Lib.toList_data]
  decide +kernel

set_option maxHeartbeats 8000000 in
set_option maxRecDepth 100000 in
theorem shown_any (w : World) : Calls Try.prog 10 #[] w fun e w' => e = .returned (.bool true) ∧ Below w.heap.size w w' := by
  have HL : Hid (P.entry_Lay.f ⟨#[97]⟩ 5 = some (La.layL bA 5, 0)) := Lib.hid (by unfold P.entry_Lay.f; rw [← layA_right okA.1 okA.2.1 okA.2.2]; rfl)
  obtain ⟨L1, hL1⟩ : ∃ L, L = La.layL bA 5 := ⟨_, rfl⟩
  obtain ⟨L3, hL3⟩ : ∃ L, L = bytesS [some (bA, 5)] := ⟨_, rfl⟩
  obtain ⟨L5, hL5⟩ : ∃ L, L = bytesS [some (bA, 5), some (bB, 6)] := ⟨_, rfl⟩
  obtain ⟨L7, hL7⟩ : ∃ L, L = bytesS [none, some (bB, 6)] := ⟨_, rfl⟩
  obtain ⟨L12, hL12⟩ : ∃ L, L = List.replicate 12 (0 : Int) := ⟨_, rfl⟩
  have A1' : Hid (addA [] ⟨#[97]⟩ 5 = (L3, 0)) := Lib.hid (by rw [hL3]; exact add1)
  have A2' : Hid (addA L3 ⟨#[98]⟩ 6 = (L5, 0)) := Lib.hid (by rw [hL3, hL5]; exact add2)
  have R1' : Hid (removeA L5 ⟨#[97]⟩ = (L7, 0)) := Lib.hid (by rw [hL5, hL7]; exact rm1)
  have R2' : Hid (removeA L7 ⟨#[98]⟩ = ([], 0)) := Lib.hid (by rw [hL7]; exact rm2)
  have B3 : Hid (Bytes L3) := Lib.hid (by rw [hL3]; exact bytesS_bytes good1.ok)
  have B5 : Hid (Bytes L5) := Lib.hid (by rw [hL5]; exact bytesS_bytes good2.ok)
  have B7 : Hid (Bytes L7) := Lib.hid (by rw [hL7]; exact bytesS_bytes good3.ok)
  have n7 : Hid (L7.length = 32) := Lib.hid (by rw [hL7, bytesS_len good3.ok]; rfl)
  have t1 : ((strOfNums L1).toList == ((⟨#[1, 229, 5, 97]⟩ : ByteArray) ++ strOfNums L12).toList) = true := by rw [hL1, hL12]; exact text1
  have t2 : ((strOfNums L3).toList == (strOfNums L1).toList) = true := by rw [beq_iff_eq, hL1, hL3]; simp [bytesS, slotB]
  have z12 : 4 + (strOfNums L12).size ≤ 9223372036854775807 := by rw [hL12, strOfNums_size]; decide
  have z12b : decide (4 + (strOfNums L12).size ≤ 9223372036854775807) = true := decide_eq_true z12
  have z12c : (9223372036854775807 < 4 + (strOfNums L12).size) = False := eq_false (Nat.not_lt.2 z12)
  rw [← hL1] at HL
  replace hL1 := Lib.hid hL1
  replace hL3 := Lib.hid hL3
  replace hL5 := Lib.hid hL5
  replace hL7 := Lib.hid hL7
  replace hL12 := Lib.hid hL12
  go_enter Try.func10, Try.ntmps10
  go_wp2_with fail
  refine (P.entry_Lay.calls ⟨#[97]⟩ 5 L1 0 _ HL.out).mono ?_
  rintro e w1 ⟨v1, rfl, ho1, hb⟩
  obtain ⟨A1, c1, ev1, hc1, hr1⟩ := Kd.R_reads ho1
  subst ev1
  have hB := Lib.hid hb
  replace hr1 := Lib.hid hr1
  clear hb ho1
  go_wp2_with fail
  refine (add_any none 0 [] ⟨#[97]⟩ 5 _ (by decide) Bytes.nil (Kd.C_nil _ _) (Nat.le_refl _)).mono ?_
  rw [A1'.out]
  rintro e w2 ⟨v3, rfl, ho3, hb⟩
  obtain ⟨A3, c3, ev3, hc3, hr3⟩ := Kd.R_reads ho3
  subst ev3
  replace hr1 := Lib.hid (Kd.C_below hr1.out hb)
  replace hB := Lib.hid (below_step hB.out hb)
  replace hr3 := Lib.hid hr3
  clear hb ho3
  go_wp2_with fail
  refine (add_any A3 c3 L3 ⟨#[98]⟩ 6 _ (by decide) B3.out hr3.out hc3).mono ?_
  rw [A2'.out]
  rintro e w3 ⟨v5, rfl, ho5, hb⟩
  obtain ⟨A5, c5, ev5, hc5, hr5⟩ := Kd.R_reads ho5
  subst ev5
  replace hr1 := Lib.hid (Kd.C_below hr1.out hb)
  replace hr3 := Lib.hid (Kd.C_below hr3.out hb)
  replace hB := Lib.hid (below_step hB.out hb)
  replace hr5 := Lib.hid hr5
  clear hb ho5
  go_wp2_with fail
  refine (remove_any A5 c5 L5 ⟨#[97]⟩ _ (by decide) B5.out hr5.out hc5).mono ?_
  rw [R1'.out]
  rintro e w4 ⟨v7, rfl, ho7, hb⟩
  obtain ⟨A7, c7, ev7, hc7, hr7⟩ := Kd.R_reads ho7
  subst ev7
  replace hr1 := Lib.hid (Kd.C_below hr1.out hb)
  replace hr3 := Lib.hid (Kd.C_below hr3.out hb)
  replace hB := Lib.hid (below_step hB.out hb)
  replace hr7 := Lib.hid hr7
  clear hb ho7 hr5
  go_wp2_with fail
  refine (remove_any A7 c7 L7 ⟨#[98]⟩ _ (by decide) B7.out hr7.out hc7).mono ?_
  rw [R2'.out]
  rintro e w5 ⟨v9, rfl, ho9, hb⟩
  obtain ⟨A9, c9, ev9, hc9, hr9⟩ := Kd.R_reads ho9
  subst ev9
  have hS0 : ShS w A1 c1 L1 A3 c3 L3 w5 := ⟨Kd.C_below hr1.out hb, Kd.C_below hr3.out hb, below_step hB.out hb⟩
  replace hS0 := Lib.hid hS0
  clear hb ho9 hr9 hr7 hr1 hr3 hB
  rw [n7.out, List.length_nil]
  go_wp2_with fail
  replace hS0 := hS0.out
  refine start_ (n := 44) (S := ShS w A1 c1 L1 A3 c3 L3) (ds := []) #[false, false, false, false, false, false, false, false, false, false, false, false, false, false, false, false, false, false, false, false, false, false, false, false, false, false, false, false, false, false, false, false, false, false, false, false, false, false, false, false, false, false, false, false] (by kernel_rfl) rfl rfl hS0.drew (fun hHeld => ?_)
  refine pure_ (i := 0) (N := some 37) (v := ?_) (a' := ?_) #[true, false, false, false, false, false, false, false, false, false, false, false, false, false, false, false, false, false, false, false, false, false, false, false, false, false, false, false, false, false, false, false, false, false, false, false, false, false, false, false, false, false, false, false] rfl rfl (by kernel_rfl) (fun _ _ _ h => h) (Or.inl ⟨by rfl, ?_⟩) ?_ ?_
  rotate_left
  · intro w'
    go_simp
    with_reducible rfl
  rotate_left
  · simp only [Act.put, List.setIfInBounds_toArray, List.set_cons_zero, List.set_cons_succ, i64_w, i32_w]
    rfl
  refine pure_ (i := 1) (N := some 38) (v := ?_) (a' := ?_) #[true, true, false, false, false, false, false, false, false, false, false, false, false, false, false, false, false, false, false, false, false, false, false, false, false, false, false, false, false, false, false, false, false, false, false, false, false, false, false, false, false, false, false, false] rfl rfl (by kernel_rfl) (fun _ _ _ h => h) (Or.inl ⟨by rfl, ?_⟩) ?_ ?_
  rotate_left
  · intro w'
    go_simp
    with_reducible rfl
  rotate_left
  · simp only [Act.put, List.setIfInBounds_toArray, List.set_cons_zero, List.set_cons_succ, i64_w, i32_w]
    rfl
  refine pure_ (i := 2) (N := some 39) (v := ?_) (a' := ?_) #[true, true, true, false, false, false, false, false, false, false, false, false, false, false, false, false, false, false, false, false, false, false, false, false, false, false, false, false, false, false, false, false, false, false, false, false, false, false, false, false, false, false, false, false] rfl rfl (by kernel_rfl) (fun _ _ _ h => h) (Or.inl ⟨by rfl, ?_⟩) ?_ ?_
  rotate_left
  · intro w'
    go_simp
    with_reducible rfl
  rotate_left
  · simp only [Act.put, List.setIfInBounds_toArray, List.set_cons_zero, List.set_cons_succ, i64_w, i32_w]
    rfl
  refine pure_ (i := 3) (N := some 40) (v := ?_) (a' := ?_) #[true, true, true, true, false, false, false, false, false, false, false, false, false, false, false, false, false, false, false, false, false, false, false, false, false, false, false, false, false, false, false, false, false, false, false, false, false, false, false, false, false, false, false, false] rfl rfl (by kernel_rfl) (fun _ _ _ h => h) (Or.inl ⟨by rfl, ?_⟩) ?_ ?_
  rotate_left
  · intro w'
    go_simp
    with_reducible rfl
  rotate_left
  · simp only [Act.put, List.setIfInBounds_toArray, List.set_cons_zero, List.set_cons_succ, i64_w, i32_w]
    rfl
  refine take_ (i := 4) (N := some 41) (v := ?_) (a' := ?_) #[true, true, true, true, true, false, false, false, false, false, false, false, false, false, false, false, false, false, false, false, false, false, false, false, false, false, false, false, false, false, false, false, false, false, false, false, false, false, false, false, false, false, false, false] rfl rfl (by kernel_rfl) (fun _ _ _ h => h) (Or.inl ⟨by rfl, ?_⟩) hHeld ?_ ?_
  rotate_left
  · rintro w' hS
    have hcv := hS.cv1
    go_simp
    with_reducible rfl
  rotate_left
  · simp only [Act.put, List.setIfInBounds_toArray, List.set_cons_zero, List.set_cons_succ, i64_w, i32_w]
    rfl
  refine one_ (i := 5) (N := some 42) #[true, true, true, true, true, true, false, false, false, false, false, false, false, false, false, false, false, false, false, false, false, false, false, false, false, false, false, false, false, false, false, false, false, false, false, false, false, false, false, false, false, false, false, false] rfl rfl (by kernel_rfl) (by decide) (fun K hK => ?_)
  refine Kd.R_make_step (Kd.int .u8) (w0 := w) w.heap.size 5 (by rfl) (N := 42) rfl 24 _ _ rfl 12 rfl rfl Try.underlying24 (.int .u8 0) 1 Rl.info_u8 rfl (by decide) (by omega) 0 (ok := fun _ => True) (okp := fun _ => True) rfl (fun _ hk => hk) trivial (by omega) (by omega) hHeld.below hHeld.below.size ?_
  intro z6 w6 ho6 hb6 hg6 hn6
  have hS6 := hHeld.grown hb6 hg6
  rw [show List.replicate (12 : Int).toNat (0 : Int) = L12 from hL12.out.symm] at ho6
  replace ho6 := Lib.hid ho6
  clear hg6 hn6 hb6
  refine hK.out _ _ hS6 (fun hHeld => ?_)
  clear hK K hS6
  refine norm_ (a' := ?_) ?_ ?_
  rotate_left
  · show Act.put _ (some 42) _ = _
    simp only [Act.put, List.setIfInBounds_toArray, List.set_cons_zero, List.set_cons_succ, i64_w, i32_w]
    rfl
  refine one_ (i := 6) (N := some 43) #[true, true, true, true, true, true, true, false, false, false, false, false, false, false, false, false, false, false, false, false, false, false, false, false, false, false, false, false, false, false, false, false, false, false, false, false, false, false, false, false, false, false, false, false] rfl rfl (by kernel_rfl) (by decide) (fun K hK => ?_)
  have hcv := own_string (P := Try.prog) Try.underlying24 Try.underlying5 Try.underlying9 (Kd.own_of_R ho6.out)
  refine value_ (w1 := ?_) (v := ?_) (by rfl) rfl ?_ ?_
  rotate_left 2
  · go_simp
    constructor
    · rfl
    · rfl
  clear hcv
  refine hK.out _ _ hHeld (fun hHeld => ?_)
  clear hK K
  refine norm_ (a' := ?_) ?_ ?_
  rotate_left
  · show Act.put _ (some 43) _ = _
    simp only [Act.put, List.setIfInBounds_toArray, List.set_cons_zero, List.set_cons_succ, i64_w, i32_w]
    rfl
  refine pure_ (i := 7) (N := some 44) (v := ?_) (a' := ?_) #[true, true, true, true, true, true, true, true, false, false, false, false, false, false, false, false, false, false, false, false, false, false, false, false, false, false, false, false, false, false, false, false, false, false, false, false, false, false, false, false, false, false, false, false] rfl rfl (by kernel_rfl) (fun _ _ _ h => h) (Or.inl ⟨by rfl, ?_⟩) ?_ ?_
  rotate_left
  · intro w'
    go_simp
    with_reducible rfl
  rotate_left
  · simp only [Act.put, List.setIfInBounds_toArray, List.set_cons_zero, List.set_cons_succ, i64_w, i32_w]
    rfl
  refine pure_ (i := 8) (N := some 45) (v := ?_) (a' := ?_) #[true, true, true, true, true, true, true, true, true, false, false, false, false, false, false, false, false, false, false, false, false, false, false, false, false, false, false, false, false, false, false, false, false, false, false, false, false, false, false, false, false, false, false, false] rfl rfl (by kernel_rfl) (fun _ _ _ h => h) (Or.inl ⟨by rfl, ?_⟩) ?_ ?_
  rotate_left
  · intro w'
    go_simp
    with_reducible rfl
  rotate_left
  · simp only [Act.put, List.setIfInBounds_toArray, List.set_cons_zero, List.set_cons_succ, i64_w, i32_w]
    rfl
  refine pure_ (i := 9) (N := some 46) (v := ?_) (a' := ?_) #[true, true, true, true, true, true, true, true, true, true, false, false, false, false, false, false, false, false, false, false, false, false, false, false, false, false, false, false, false, false, false, false, false, false, false, false, false, false, false, false, false, false, false, false] rfl rfl (by kernel_rfl) (fun _ _ _ h => h) (Or.inl ⟨by rfl, ?_⟩) ?_ ?_
  rotate_left
  · intro w'
    go_simp
    with_reducible rfl
  rotate_left
  · simp only [Act.put, List.setIfInBounds_toArray, List.set_cons_zero, List.set_cons_succ, i64_w, i32_w]
    rfl
  refine pure_ (i := 10) (N := some 47) (v := ?_) (a' := ?_) #[true, true, true, true, true, true, true, true, true, true, true, false, false, false, false, false, false, false, false, false, false, false, false, false, false, false, false, false, false, false, false, false, false, false, false, false, false, false, false, false, false, false, false, false] rfl rfl (by kernel_rfl) (fun _ _ _ h => h) (Or.inl ⟨by rfl, ?_⟩) ?_ ?_
  rotate_left
  · intro w'
    go_simp
    with_reducible rfl
  rotate_left
  · simp only [Act.put, List.setIfInBounds_toArray, List.set_cons_zero, List.set_cons_succ, i64_w, i32_w]
    rfl
  refine pure_ (i := 11) (N := some 48) (v := ?_) (a' := ?_) #[true, true, true, true, true, true, true, true, true, true, true, true, false, false, false, false, false, false, false, false, false, false, false, false, false, false, false, false, false, false, false, false, false, false, false, false, false, false, false, false, false, false, false, false] rfl rfl (by kernel_rfl) (fun _ _ _ h => h) (Or.inl ⟨by rfl, ?_⟩) ?_ ?_
  rotate_left
  · intro w'
    go_simp
    with_reducible rfl
  rotate_left
  · simp only [Act.put, List.setIfInBounds_toArray, List.set_cons_zero, List.set_cons_succ, i64_w, i32_w]
    rfl
  refine pure_ (i := 12) (N := some 49) (v := ?_) (a' := ?_) #[true, true, true, true, true, true, true, true, true, true, true, true, true, false, false, false, false, false, false, false, false, false, false, false, false, false, false, false, false, false, false, false, false, false, false, false, false, false, false, false, false, false, false, false] rfl rfl (by kernel_rfl) (fun _ _ _ h => h) (Or.inl ⟨by rfl, ?_⟩) ?_ ?_
  rotate_left
  · intro w'
    go_simp
    with_reducible rfl
  rotate_left
  · simp only [Act.put, List.setIfInBounds_toArray, List.set_cons_zero, List.set_cons_succ, i64_w, i32_w]
    rfl
  refine pure_ (i := 13) (N := some 50) (v := ?_) (a' := ?_) #[true, true, true, true, true, true, true, true, true, true, true, true, true, true, false, false, false, false, false, false, false, false, false, false, false, false, false, false, false, false, false, false, false, false, false, false, false, false, false, false, false, false, false, false] rfl rfl (by kernel_rfl) (fun _ _ _ h => h) (Or.inl ⟨by rfl, ?_⟩) ?_ ?_
  rotate_left
  · intro w'
    go_simp
    with_reducible rfl
  rotate_left
  · simp only [Act.put, List.setIfInBounds_toArray, List.set_cons_zero, List.set_cons_succ, i64_w, i32_w]
    rfl
  refine pure_ (i := 14) (N := some 51) (v := ?_) (a' := ?_) #[true, true, true, true, true, true, true, true, true, true, true, true, true, true, true, false, false, false, false, false, false, false, false, false, false, false, false, false, false, false, false, false, false, false, false, false, false, false, false, false, false, false, false, false] rfl rfl (by kernel_rfl) (fun _ _ _ h => h) (Or.inl ⟨by rfl, ?_⟩) ?_ ?_
  rotate_left
  · intro w'
    go_simp
    with_reducible rfl
  rotate_left
  · simp only [Act.put, List.setIfInBounds_toArray, List.set_cons_zero, List.set_cons_succ, i64_w, i32_w]
    rfl
  refine pure_ (i := 15) (N := some 52) (v := ?_) (a' := ?_) #[true, true, true, true, true, true, true, true, true, true, true, true, true, true, true, true, false, false, false, false, false, false, false, false, false, false, false, false, false, false, false, false, false, false, false, false, false, false, false, false, false, false, false, false] rfl rfl (by kernel_rfl) (fun _ _ _ h => h) (Or.inl ⟨by rfl, ?_⟩) ?_ ?_
  rotate_left
  · intro w'
    go_simp
    with_reducible rfl
  rotate_left
  · simp only [Act.put, List.setIfInBounds_toArray, List.set_cons_zero, List.set_cons_succ, i64_w, i32_w]
    rfl
  refine take_ (i := 16) (N := some 53) (v := ?_) (a' := ?_) #[true, true, true, true, true, true, true, true, true, true, true, true, true, true, true, true, true, false, false, false, false, false, false, false, false, false, false, false, false, false, false, false, false, false, false, false, false, false, false, false, false, false, false, false] rfl rfl (by kernel_rfl) (fun _ _ _ h => h) (Or.inl ⟨by rfl, ?_⟩) hHeld ?_ ?_
  rotate_left
  · rintro w' hS
    have hcv := hS.cv3
    go_simp
    with_reducible rfl
  rotate_left
  · simp only [Act.put, List.setIfInBounds_toArray, List.set_cons_zero, List.set_cons_succ, i64_w, i32_w]
    rfl
  refine pure_ (i := 17) (N := some 54) (v := ?_) (a' := ?_) #[true, true, true, true, true, true, true, true, true, true, true, true, true, true, true, true, true, true, false, false, false, false, false, false, false, false, false, false, false, false, false, false, false, false, false, false, false, false, false, false, false, false, false, false] rfl rfl (by kernel_rfl) (fun _ _ _ h => h) (Or.inl ⟨by rfl, ?_⟩) ?_ ?_
  rotate_left
  · intro w'
    go_simp
    with_reducible rfl
  rotate_left
  · simp only [Act.put, List.setIfInBounds_toArray, List.set_cons_zero, List.set_cons_succ, i64_w, i32_w]
    rfl
  refine take_ (i := 18) (N := some 55) (v := ?_) (a' := ?_) #[true, true, true, true, true, true, true, true, true, true, true, true, true, true, true, true, true, true, true, false, false, false, false, false, false, false, false, false, false, false, false, false, false, false, false, false, false, false, false, false, false, false, false, false] rfl rfl (by kernel_rfl) (fun _ _ _ h => h) (Or.inl ⟨by rfl, ?_⟩) hHeld ?_ ?_
  rotate_left
  · rintro w' hS
    have hcv := hS.cv1
    go_simp
    with_reducible rfl
  rotate_left
  · simp only [Act.put, List.setIfInBounds_toArray, List.set_cons_zero, List.set_cons_succ, i64_w, i32_w]
    rfl
  refine pure_ (i := 19) (N := some 56) (v := ?_) (a' := ?_) #[true, true, true, true, true, true, true, true, true, true, true, true, true, true, true, true, true, true, true, true, false, false, false, false, false, false, false, false, false, false, false, false, false, false, false, false, false, false, false, false, false, false, false, false] rfl rfl (by kernel_rfl) (fun _ _ _ h => h) (Or.inl ⟨by rfl, ?_⟩) ?_ ?_
  rotate_left
  · intro w'
    go_simp
    with_reducible rfl
  rotate_left
  · simp only [Act.put, List.setIfInBounds_toArray, List.set_cons_zero, List.set_cons_succ, i64_w, i32_w]
    rfl
  refine pure_ (i := 20) (N := some 57) (v := ?_) (a' := ?_) #[true, true, true, true, true, true, true, true, true, true, true, true, true, true, true, true, true, true, true, true, true, false, false, false, false, false, false, false, false, false, false, false, false, false, false, false, false, false, false, false, false, false, false, false] rfl rfl (by kernel_rfl) (fun _ _ _ h => h) (Or.inl ⟨by rfl, ?_⟩) ?_ ?_
  rotate_left
  · intro w'
    go_simp
    with_reducible rfl
  rotate_left
  · simp only [Act.put, List.setIfInBounds_toArray, List.set_cons_zero, List.set_cons_succ, i64_w, i32_w]
    rfl
  refine pure_ (i := 21) (N := some 58) (v := ?_) (a' := ?_) #[true, true, true, true, true, true, true, true, true, true, true, true, true, true, true, true, true, true, true, true, true, true, false, false, false, false, false, false, false, false, false, false, false, false, false, false, false, false, false, false, false, false, false, false] rfl rfl (by kernel_rfl) (fun _ _ _ h => h) (Or.inl ⟨by rfl, ?_⟩) ?_ ?_
  rotate_left
  · intro w'
    go_simp
    with_reducible rfl
  rotate_left
  · simp only [Act.put, List.setIfInBounds_toArray, List.set_cons_zero, List.set_cons_succ, i64_w, i32_w]
    rfl
  refine pure_ (i := 22) (N := some 59) (v := ?_) (a' := ?_) #[true, true, true, true, true, true, true, true, true, true, true, true, true, true, true, true, true, true, true, true, true, true, true, false, false, false, false, false, false, false, false, false, false, false, false, false, false, false, false, false, false, false, false, false] rfl rfl (by kernel_rfl) (fun _ _ _ h => h) (Or.inl ⟨by rfl, ?_⟩) ?_ ?_
  rotate_left
  · intro w'
    go_simp
    with_reducible rfl
  rotate_left
  · simp only [Act.put, List.setIfInBounds_toArray, List.set_cons_zero, List.set_cons_succ, i64_w, i32_w]
    rfl
  refine pure_ (i := 23) (N := some 60) (v := ?_) (a' := ?_) #[true, true, true, true, true, true, true, true, true, true, true, true, true, true, true, true, true, true, true, true, true, true, true, true, false, false, false, false, false, false, false, false, false, false, false, false, false, false, false, false, false, false, false, false] rfl rfl (by kernel_rfl) (fun _ _ _ h => h) (Or.inl ⟨by rfl, ?_⟩) ?_ ?_
  rotate_left
  · intro w'
    go_simp
    with_reducible rfl
  rotate_left
  · simp only [Act.put, List.setIfInBounds_toArray, List.set_cons_zero, List.set_cons_succ, i64_w, i32_w]
    rfl
  refine pure_ (i := 24) (N := some 61) (v := ?_) (a' := ?_) #[true, true, true, true, true, true, true, true, true, true, true, true, true, true, true, true, true, true, true, true, true, true, true, true, true, false, false, false, false, false, false, false, false, false, false, false, false, false, false, false, false, false, false, false] rfl rfl (by kernel_rfl) (fun _ _ _ h => h) (Or.inl ⟨by rfl, ?_⟩) ?_ ?_
  rotate_left
  · intro w'
    go_simp
    with_reducible rfl
  rotate_left
  · simp only [Act.put, List.setIfInBounds_toArray, List.set_cons_zero, List.set_cons_succ, i64_w, i32_w]
    rfl
  refine pure_ (i := 25) (N := some 62) (v := ?_) (a' := ?_) #[true, true, true, true, true, true, true, true, true, true, true, true, true, true, true, true, true, true, true, true, true, true, true, true, true, true, false, false, false, false, false, false, false, false, false, false, false, false, false, false, false, false, false, false] rfl rfl (by kernel_rfl) (fun _ _ _ h => h) (Or.inl ⟨by rfl, ?_⟩) ?_ ?_
  rotate_left
  · intro w'
    go_simp
    with_reducible rfl
  rotate_left
  · simp only [Act.put, List.setIfInBounds_toArray, List.set_cons_zero, List.set_cons_succ, i64_w, i32_w]
    rfl
  refine pure_ (i := 26) (N := some 63) (v := ?_) (a' := ?_) #[true, true, true, true, true, true, true, true, true, true, true, true, true, true, true, true, true, true, true, true, true, true, true, true, true, true, true, false, false, false, false, false, false, false, false, false, false, false, false, false, false, false, false, false] rfl rfl (by kernel_rfl) (fun _ _ _ h => h) (Or.inl ⟨by rfl, ?_⟩) ?_ ?_
  rotate_left
  · intro w'
    go_simp
    with_reducible rfl
  rotate_left
  · simp only [Act.put, List.setIfInBounds_toArray, List.set_cons_zero, List.set_cons_succ, i64_w, i32_w]
    rfl
  refine pure_ (i := 27) (N := some 64) (v := ?_) (a' := ?_) #[true, true, true, true, true, true, true, true, true, true, true, true, true, true, true, true, true, true, true, true, true, true, true, true, true, true, true, true, false, false, false, false, false, false, false, false, false, false, false, false, false, false, false, false] rfl rfl (by kernel_rfl) (fun _ _ _ h => h) (Or.inl ⟨by rfl, ?_⟩) ?_ ?_
  rotate_left
  · intro w'
    go_simp
    with_reducible rfl
  rotate_left
  · simp only [Act.put, List.setIfInBounds_toArray, List.set_cons_zero, List.set_cons_succ, i64_w, i32_w]
    rfl
  refine pure_ (i := 28) (N := some 65) (v := ?_) (a' := ?_) #[true, true, true, true, true, true, true, true, true, true, true, true, true, true, true, true, true, true, true, true, true, true, true, true, true, true, true, true, true, false, false, false, false, false, false, false, false, false, false, false, false, false, false, false] rfl rfl (by kernel_rfl) (fun _ _ _ h => h) (Or.inl ⟨by rfl, ?_⟩) ?_ ?_
  rotate_left
  · intro w'
    go_simp
    with_reducible rfl
  rotate_left
  · simp only [Act.put, List.setIfInBounds_toArray, List.set_cons_zero, List.set_cons_succ, i64_w, i32_w]
    rfl
  refine pure_ (i := 29) (N := some 66) (v := ?_) (a' := ?_) #[true, true, true, true, true, true, true, true, true, true, true, true, true, true, true, true, true, true, true, true, true, true, true, true, true, true, true, true, true, true, false, false, false, false, false, false, false, false, false, false, false, false, false, false] rfl rfl (by kernel_rfl) (fun _ _ _ h => h) (Or.inl ⟨by rfl, ?_⟩) ?_ ?_
  rotate_left
  · intro w'
    go_simp
    with_reducible rfl
  rotate_left
  · simp only [Act.put, List.setIfInBounds_toArray, List.set_cons_zero, List.set_cons_succ, i64_w, i32_w]
    rfl
  refine pure_ (i := 30) (N := some 67) (v := ?_) (a' := ?_) #[true, true, true, true, true, true, true, true, true, true, true, true, true, true, true, true, true, true, true, true, true, true, true, true, true, true, true, true, true, true, true, false, false, false, false, false, false, false, false, false, false, false, false, false] rfl rfl (by kernel_rfl) (fun _ _ _ h => h) (Or.inl ⟨by rfl, ?_⟩) ?_ ?_
  rotate_left
  · intro w'
    go_simp
    with_reducible rfl
  rotate_left
  · simp only [Act.put, List.setIfInBounds_toArray, List.set_cons_zero, List.set_cons_succ, i64_w, i32_w]
    rfl
  refine pure_ (i := 31) (N := some 68) (v := ?_) (a' := ?_) #[true, true, true, true, true, true, true, true, true, true, true, true, true, true, true, true, true, true, true, true, true, true, true, true, true, true, true, true, true, true, true, true, false, false, false, false, false, false, false, false, false, false, false, false] rfl rfl (by kernel_rfl) (fun _ _ _ h => h) (Or.inl ⟨by rfl, ?_⟩) ?_ ?_
  rotate_left
  · intro w'
    go_simp
    with_reducible rfl
  rotate_left
  · simp only [Act.put, List.setIfInBounds_toArray, List.set_cons_zero, List.set_cons_succ, i64_w, i32_w]
    rfl
  refine pure_ (i := 32) (N := some 69) (v := ?_) (a' := ?_) #[true, true, true, true, true, true, true, true, true, true, true, true, true, true, true, true, true, true, true, true, true, true, true, true, true, true, true, true, true, true, true, true, true, false, false, false, false, false, false, false, false, false, false, false] rfl rfl (by kernel_rfl) (fun _ _ _ h => h) (Or.inl ⟨by rfl, ?_⟩) ?_ ?_
  rotate_left
  · intro w'
    go_simp
    with_reducible rfl
  rotate_left
  · simp only [Act.put, List.setIfInBounds_toArray, List.set_cons_zero, List.set_cons_succ, i64_w, i32_w]
    rfl
  refine pure_ (i := 33) (N := some 70) (v := ?_) (a' := ?_) #[true, true, true, true, true, true, true, true, true, true, true, true, true, true, true, true, true, true, true, true, true, true, true, true, true, true, true, true, true, true, true, true, true, true, false, false, false, false, false, false, false, false, false, false] rfl rfl (by kernel_rfl) (fun _ _ _ h => h) (Or.inl ⟨by rfl, ?_⟩) ?_ ?_
  rotate_left
  · intro w'
    go_simp
    with_reducible rfl
  rotate_left
  · simp only [Act.put, List.setIfInBounds_toArray, List.set_cons_zero, List.set_cons_succ, i64_w, i32_w]
    rfl
  refine pure_ (i := 34) (N := some 71) (v := ?_) (a' := ?_) #[true, true, true, true, true, true, true, true, true, true, true, true, true, true, true, true, true, true, true, true, true, true, true, true, true, true, true, true, true, true, true, true, true, true, true, false, false, false, false, false, false, false, false, false] rfl rfl (by kernel_rfl) (fun _ _ _ h => h) (Or.inl ⟨by rfl, ?_⟩) ?_ ?_
  rotate_left
  · intro w'
    go_simp
    with_reducible rfl
  rotate_left
  · simp only [Act.put, List.setIfInBounds_toArray, List.set_cons_zero, List.set_cons_succ, i64_w, i32_w]
    rfl
  refine pure_ (i := 35) (N := some 72) (v := ?_) (a' := ?_) #[true, true, true, true, true, true, true, true, true, true, true, true, true, true, true, true, true, true, true, true, true, true, true, true, true, true, true, true, true, true, true, true, true, true, true, true, false, false, false, false, false, false, false, false] rfl rfl (by kernel_rfl) (fun _ _ _ h => h) (Or.inl ⟨by rfl, ?_⟩) ?_ ?_
  rotate_left
  · intro w'
    go_simp
    with_reducible rfl
  rotate_left
  · simp only [Act.put, List.setIfInBounds_toArray, List.set_cons_zero, List.set_cons_succ, i64_w, i32_w]
    rfl
  refine pure_ (i := 36) (N := some 73) (v := ?_) (a' := ?_) #[true, true, true, true, true, true, true, true, true, true, true, true, true, true, true, true, true, true, true, true, true, true, true, true, true, true, true, true, true, true, true, true, true, true, true, true, true, false, false, false, false, false, false, false] rfl rfl (by kernel_rfl) (fun _ _ _ h => h) (Or.inl ⟨by rfl, ?_⟩) ?_ ?_
  rotate_left
  · intro w'
    go_simp
    with_reducible rfl
  rotate_left
  · simp only [Act.put, List.setIfInBounds_toArray, List.set_cons_zero, List.set_cons_succ, i64_w, i32_w]
    rfl
  refine pure_ (i := 37) (N := some 74) (v := ?_) (a' := ?_) #[true, true, true, true, true, true, true, true, true, true, true, true, true, true, true, true, true, true, true, true, true, true, true, true, true, true, true, true, true, true, true, true, true, true, true, true, true, true, false, false, false, false, false, false] rfl rfl (by kernel_rfl) (fun _ _ _ h => h) (Or.inl ⟨by rfl, ?_⟩) ?_ ?_
  rotate_left
  · intro w'
    go_simp
    with_reducible rfl
  rotate_left
  · simp only [Act.put, List.setIfInBounds_toArray, List.set_cons_zero, List.set_cons_succ, i64_w, i32_w]
    rfl
  refine pure_ (i := 38) (N := some 75) (v := ?_) (a' := ?_) #[true, true, true, true, true, true, true, true, true, true, true, true, true, true, true, true, true, true, true, true, true, true, true, true, true, true, true, true, true, true, true, true, true, true, true, true, true, true, true, false, false, false, false, false] rfl rfl (by kernel_rfl) (fun _ _ _ h => h) (Or.inl ⟨by rfl, ?_⟩) ?_ ?_
  rotate_left
  · intro w'
    go_simp
    with_reducible rfl
  rotate_left
  · simp only [Act.put, List.setIfInBounds_toArray, List.set_cons_zero, List.set_cons_succ, i64_w, i32_w]
    rfl
  refine pure_ (i := 39) (N := some 76) (v := ?_) (a' := ?_) #[true, true, true, true, true, true, true, true, true, true, true, true, true, true, true, true, true, true, true, true, true, true, true, true, true, true, true, true, true, true, true, true, true, true, true, true, true, true, true, true, false, false, false, false] rfl rfl (by kernel_rfl) (fun _ _ _ h => h) (Or.inl ⟨by rfl, ?_⟩) ?_ ?_
  rotate_left
  · intro w'
    go_simp
    with_reducible rfl
  rotate_left
  · simp only [Act.put, List.setIfInBounds_toArray, List.set_cons_zero, List.set_cons_succ, i64_w, i32_w]
    rfl
  refine pure_ (i := 40) (N := some 77) (v := ?_) (a' := ?_) #[true, true, true, true, true, true, true, true, true, true, true, true, true, true, true, true, true, true, true, true, true, true, true, true, true, true, true, true, true, true, true, true, true, true, true, true, true, true, true, true, true, false, false, false] rfl rfl (by kernel_rfl) (fun _ _ _ h => h) (Or.inl ⟨by rfl, ?_⟩) ?_ ?_
  rotate_left
  · intro w'
    go_simp
    with_reducible rfl
  rotate_left
  · simp only [Act.put, List.setIfInBounds_toArray, List.set_cons_zero, List.set_cons_succ, i64_w, i32_w]
    rfl
  refine pure_ (i := 41) (N := some 78) (v := ?_) (a' := ?_) #[true, true, true, true, true, true, true, true, true, true, true, true, true, true, true, true, true, true, true, true, true, true, true, true, true, true, true, true, true, true, true, true, true, true, true, true, true, true, true, true, true, true, false, false] rfl rfl (by kernel_rfl) (fun _ _ _ h => h) (Or.inl ⟨by rfl, ?_⟩) ?_ ?_
  rotate_left
  · intro w'
    go_simp
    with_reducible rfl
  rotate_left
  · simp only [Act.put, List.setIfInBounds_toArray, List.set_cons_zero, List.set_cons_succ, i64_w, i32_w]
    rfl
  refine pure_ (i := 42) (N := some 79) (v := ?_) (a' := ?_) #[true, true, true, true, true, true, true, true, true, true, true, true, true, true, true, true, true, true, true, true, true, true, true, true, true, true, true, true, true, true, true, true, true, true, true, true, true, true, true, true, true, true, true, false] rfl rfl (by kernel_rfl) (fun _ _ _ h => h) (Or.inl ⟨by rfl, ?_⟩) ?_ ?_
  rotate_left
  · intro w'
    go_simp
    with_reducible rfl
  rotate_left
  · simp only [Act.put, List.setIfInBounds_toArray, List.set_cons_zero, List.set_cons_succ, i64_w, i32_w]
    rfl
  refine pure_ (i := 43) (N := some 0) (v := ?_) (a' := ?_) #[true, true, true, true, true, true, true, true, true, true, true, true, true, true, true, true, true, true, true, true, true, true, true, true, true, true, true, true, true, true, true, true, true, true, true, true, true, true, true, true, true, true, true, true] rfl rfl (by kernel_rfl) (fun _ _ _ h => h) (Or.inl ⟨by rfl, ?_⟩) ?_ ?_
  rotate_left
  · intro w'
    go_simp
    with_reducible rfl
  rotate_left
  · simp only [Act.put, List.setIfInBounds_toArray, List.set_cons_zero, List.set_cons_succ, i64_w, i32_w]
    rfl
  refine done_ (by kernel_rfl) ?_
  go_wp2_with fail
  go_ret
  exact ⟨rfl, hHeld.below⟩
end Go.Proofs.Ytinfjmdcmfpdiaa.Sh
namespace Go.Proofs.Ytinfjmdcmfpdiaa.P
open Go.RowKit
def moatlaw12_shown.f : Option Bool := some true
theorem moatlaw12_shown.calls (r : Bool) (w : World) (h : moatlaw12_shown.f = some r) : Calls Try.prog 10 #[] w fun e w' => e = .returned (.bool r) ∧ Below w.heap.size w w' := by
  injection h with h
  rw [← h]
  exact Sh.shown_any w
end Go.Proofs.Ytinfjmdcmfpdiaa.P

/- The statements' 'few' and EntryAlls: walks. -/
namespace Go.Proofs.Ytinfjmdcmfpdiaa.Lw
open Go.RowKit Go.Proofs.Ytinfjmdcmfpdiaa.Rt Go.Proofs.Ytinfjmdcmfpdiaa.Md Go.Proofs.Ytinfjmdcmfpdiaa.Al Go.Proofs.Ytinfjmdcmfpdiaa.Pc Go.Proofs.Ytinfjmdcmfpdiaa.Fn Go.Proofs.Ytinfjmdcmfpdiaa.Ad Go.Proofs.Ytinfjmdcmfpdiaa.Rm Go.Proofs.YtinfjmdcmfpdiaaW.PrintWords Go.Proofs.YtinfjmdcmfpdiaaW.PrintLast Go.Proofs.YtinfjmdcmfpdiaaW.PrintMore
set_option linter.unusedVariables false
set_option linter.unusedSimpArgs false

set_option maxHeartbeats 1000000 in
set_option maxRecDepth 100000 in
theorem few_any (A0 : Option Addr) (n c0 : Nat) (hn : n ≤ 9223372036854775807) (hc0 : n ≤ c0) (w : World) :
    Calls Try.prog 14 #[.slice A0 n c0] w fun e w' => e = .returned (.slice A0 (min n 5000) c0) ∧ w' = w := by
  by_cases h : n ≤ 5000
  · have e : min n 5000 = n := Nat.min_eq_left h
    rw [e]
    have c1 : min (n : Int) 5000 = (n : Int) := by omega
    go_enter Try.func14, Try.ntmps14
    go_wp2_with fail
    go_ret
    exact ⟨by simp, rfl⟩
  · have e : min n 5000 = 5000 := Nat.min_eq_right (by omega)
    rw [e]
    have c1 : min (n : Int) 5000 = 5000 := by omega
    have c2 : (5000 : Nat) ≤ c0 := by omega
    have c3 : (5000 : Int) ≤ (c0 : Int) := by omega
    go_enter Try.func14, Try.ntmps14
    go_wp2_with fail
    go_ret
    exact ⟨by simp, rfl⟩

theorem few_t (A0 : Option Addr) (c0 : Nat) (l0 : List Int) (hm : l0.length ≤ 9223372036854775807) (hc0 : l0.length ≤ c0) : ∃ t : List Int, t = l0.take 5000 ∧ (Bytes l0 → Bytes t) ∧ t.length ≤ 5000 ∧ t.length ≤ c0 ∧ (∀ w, Kd.C (Kd.int .u8) w A0 l0.length l0 → Kd.C (Kd.int .u8) w A0 t.length t) ∧
    ∀ w, Calls Try.prog 14 #[.slice A0 l0.length c0] w fun e w' => e = .returned (.slice A0 t.length c0) ∧ w' = w := by
  have e : (l0.take 5000).length = min l0.length 5000 := by rw [List.length_take]; omega
  refine ⟨l0.take 5000, rfl, fun h => h.take _, by omega, by omega, fun w h => ?_, fun w => ?_⟩
  · by_cases h5 : 5000 ≤ l0.length
    · exact Kd.C_take h h5
    · rw [List.take_of_length_le (by omega)]; exact h
  · rw [e]; exact few_any A0 l0.length c0 hm hc0 w

theorem allA_le (l : List Int) : (allA l).1.length ≤ 240 := by
  unfold allA
  cases hd : dirO l with
  | none => simp [Al.ansA]
  | some s =>
    have h1 := entsOf_le s
    have h2 := (dir_good hd).2.room
    show (entsOf s).length ≤ 240
    omega

set_option maxHeartbeats 4000000 in
set_option maxRecDepth 100000 in
theorem alls_any (A0 : Option Addr) (c0 : Nat) (l0 : List Int) (n : ByteArray) (w : World) (hb : Bytes l0) (hr0 : Kd.C (Kd.int .u8) w A0 l0.length l0) (hc0 : l0.length ≤ c0) (hn : n.size ≤ maxLen) :
    Calls Try.prog 8 #[.slice A0 l0.length c0, .string n] w fun e w' => e = .returned (.bool true) ∧ Below w.heap.size w w' := by
  obtain ⟨t, -, htb, ht5, htc, htC, htF⟩ := few_t A0 c0 l0 hr0.2.1 hc0
  have HR := Lib.hid (htC w hr0)
  have HB := Lib.hid (htb hb)
  have HF := Lib.hid htF
  obtain ⟨K1, k1⟩ := (all_ev HB.out).rounds
  obtain ⟨K2, k2⟩ := (find_ev HB.out n).rounds
  have hle := allA_le t
  obtain ⟨K3, k3⟩ := (same_ev (allA t).1 hle).rounds
  obtain ⟨Lx, ex, hA⟩ : ∃ Lx ex, allA t = (Lx, ex) := ⟨_, _, rfl⟩
  obtain ⟨fi, fb, hf⟩ : ∃ fi fb, findA t n = (fi, fb) := ⟨_, _, rfl⟩
  rw [hA] at k1 k3 hle
  rw [hf] at k2
  replace k1 := Lib.hid k1
  replace k2 := Lib.hid k2
  replace k3 := Lib.hid k3
  replace hA := Lib.hid hA
  replace hf := Lib.hid hf
  clear hb hr0 htb htC htF
  by_cases hbig : n.size > 1000
  · have b1 : decide ((n.size : Int) > 1000) = true := decide_eq_true (by omega)
    go_enter Try.func8, Try.ntmps8
    go_wp2_with fail
    refine (P.moatlaw12_shown.calls true _ rfl).mono ?_
    rintro e w1 ⟨rfl, hb⟩
    have hB := Lib.hid hb
    clear hb
    go_wp2_with fail
    go_ret
    exact ⟨by simp, hB.out⟩
  · have b1 : decide ((n.size : Int) > 1000) = false := decide_eq_false (by omega)
    have q1 : (ex == ex) = true := beq_self_eq_true _
    have q2 : (fi == fi) = true := beq_self_eq_true _
    have q3 : (fb == fb) = true := beq_self_eq_true _
    go_enter Try.func8, Try.ntmps8
    go_wp2_with fail
    refine (P.moatlaw12_shown.calls true _ rfl).mono ?_
    rintro e w1 ⟨rfl, hb⟩
    have hB := Lib.hid hb
    clear hb
    go_wp2_with fail
    refine (HF.out _).mono ?_
    rintro e w2 ⟨rfl, hw⟩
    subst hw
    go_wp2_with fail
    refine (all_any A0 c0 t _ HB.out (Kd.C_below HR.out hB.out) htc).mono ?_
    rw [hA.out]
    rintro e w3 ⟨v3, rfl, ho3, hb⟩
    obtain ⟨A3, c3, ev3, hc3, hr3⟩ := Kd.R_reads ho3
    subst ev3
    replace hB := Lib.hid (below_step hB.out hb)
    replace hr3 := Lib.hid hr3
    clear ho3 hb
    go_wp2_with fail
    refine (HF.out _).mono ?_
    rintro e w4 ⟨rfl, hw⟩
    subst hw
    go_wp2_with fail
    refine (D.moatref12_All.calls K1 A0 c0 t Lx ex _ (Kd.C_below HR.out hB.out) htc k1.out).mono ?_
    rintro e w5 ⟨v5, rfl, ho5, hb⟩
    obtain ⟨A5, c5, ev5, hc5, hr5⟩ := Kd.R_reads ho5
    subst ev5
    replace hB := Lib.hid (below_step hB.out hb)
    replace hr3 := Lib.hid (Kd.C_below hr3.out hb)
    replace hr5 := Lib.hid hr5
    clear ho5 hb
    go_wp2_with fail
    refine (HF.out _).mono ?_
    rintro e w6 ⟨rfl, hw⟩
    subst hw
    go_wp2_with fail
    refine (find_any A0 c0 t n _ hn HB.out (Kd.C_below HR.out hB.out) htc).mono ?_
    rw [hf.out]
    rintro e w7 ⟨rfl, hb⟩
    replace hB := Lib.hid (below_step hB.out hb)
    replace hr3 := Lib.hid (Kd.C_below hr3.out hb)
    replace hr5 := Lib.hid (Kd.C_below hr5.out hb)
    clear hb
    go_wp2_with fail
    refine (HF.out _).mono ?_
    rintro e w8 ⟨rfl, hw⟩
    subst hw
    go_wp2_with fail
    refine (D.moatref12_Find.calls K2 A0 c0 t n fi fb _ (Kd.C_below HR.out hB.out) htc k2.out).mono ?_
    rintro e w9 ⟨rfl, hb⟩
    replace hB := Lib.hid (below_step hB.out hb)
    replace hr3 := Lib.hid (Kd.C_below hr3.out hb)
    replace hr5 := Lib.hid (Kd.C_below hr5.out hb)
    clear hb
    go_wp2_with fail
    refine (D.moatref12_Same.calls K3 A3 c3 Lx A5 c5 Lx true _ hr3.out hc3 hr5.out hc5 k3.out).mono ?_
    rintro e w10 ⟨rfl, hb⟩
    replace hB := Lib.hid (below_step hB.out (by first | exact hb | exact hb.below))
    clear hb
    go_wp2_with fail
    go_ret
    exact ⟨by simp, hB.out⟩
end Go.Proofs.Ytinfjmdcmfpdiaa.Lw

/- EntryLays: its walk. -/
namespace Go.Proofs.Ytinfjmdcmfpdiaa.Lw
open Go.RowKit Go.Proofs.Ytinfjmdcmfpdiaa.Rt Go.Proofs.Ytinfjmdcmfpdiaa.Md Go.Proofs.Ytinfjmdcmfpdiaa.Al Go.Proofs.Ytinfjmdcmfpdiaa.Pc Go.Proofs.Ytinfjmdcmfpdiaa.Fn Go.Proofs.Ytinfjmdcmfpdiaa.Ad Go.Proofs.Ytinfjmdcmfpdiaa.Rm Go.Proofs.Ytinfjmdcmfpdiaa.Rc Go.Proofs.YtinfjmdcmfpdiaaW.PrintWords Go.Proofs.YtinfjmdcmfpdiaaW.PrintLast Go.Proofs.YtinfjmdcmfpdiaaW.PrintMore
set_option linter.unusedVariables false
set_option linter.unusedSimpArgs false
attribute [local go_sem high] D.eqA23

/-- What stands while the answers are compared. -/
structure LyS (w : World) (n : ByteArray) (ino : Int) (A1 : Option Addr) (c1 : Nat) (L : List Int) (A2 : Option Addr) (c2 : Nat) (gy gz : Nat) (r1 : ByteArray) (r2 : Int) (W : World) : Prop where
  x : W.heap[w.heap.size]? = some (.cells #[.string n, .int .i64 ino] 23 (0, 0))
  l1 : Kd.C (Kd.int .u8) W A1 L.length L
  l2 : Kd.C (Kd.int .u8) W A2 L.length L
  y : W.heap[gy]? = some (.cells #[.string r1, .int .i64 r2] 23 (0, 0))
  z : W.heap[gz]? = some (.cells #[.string r1, .int .i64 r2] 23 (0, 0))
  below : Below w.heap.size w W
section
variable {w W W' : World} {n : ByteArray} {ino : Int} {A1 A2 : Option Addr} {c1 c2 gy gz : Nat} {L : List Int} {r1 : ByteArray} {r2 : Int}
theorem LyS.step (h : LyS w n ino A1 c1 L A2 c2 gy gz r1 r2 W) (hb : Below W.heap.size W W') : LyS w n ino A1 c1 L A2 c2 gy gz r1 r2 W' := ⟨blk_below h.x hb, Kd.C_below h.l1 hb, Kd.C_below h.l2 hb, blk_below h.y hb, blk_below h.z hb, below_step h.below hb⟩
theorem LyS.drew (h : LyS w n ino A1 c1 L A2 c2 gy gz r1 r2 W) : LyS w n ino A1 c1 L A2 c2 gy gz r1 r2 W.drew := h.step (below_drew1 (Below.refl _ _))
theorem LyS.cx (h : LyS w n ino A1 c1 L A2 c2 gy gz r1 r2 W) : W.cell? ⟨w.heap.size, 0, none⟩ = some (.string n) := (blk_cell h.x 0).trans rfl
theorem LyS.cy (h : LyS w n ino A1 c1 L A2 c2 gy gz r1 r2 W) : W.cell? ⟨gy, 0, none⟩ = some (.string r1) ∧ W.cell? ⟨gy, 1, none⟩ = some (.int .i64 r2) := ⟨(blk_cell h.y 0).trans rfl, (blk_cell h.y 1).trans rfl⟩
theorem LyS.cz (h : LyS w n ino A1 c1 L A2 c2 gy gz r1 r2 W) : W.cell? ⟨gz, 0, none⟩ = some (.string r1) ∧ W.cell? ⟨gz, 1, none⟩ = some (.int .i64 r2) := ⟨(blk_cell h.z 0).trans rfl, (blk_cell h.z 1).trans rfl⟩
theorem LyS.cv1 (h : LyS w n ino A1 c1 L A2 c2 gy gz r1 r2 W) : (convert 24 9 (.slice A1 L.length c1)).run Try.prog W = .ok (.string (strOfNums L)) W := Kd.C_string Try.underlying24 Try.underlying5 Try.underlying9 h.l1
theorem LyS.cv2 (h : LyS w n ino A1 c1 L A2 c2 gy gz r1 r2 W) : (convert 24 9 (.slice A2 L.length c2)).run Try.prog W = .ok (.string (strOfNums L)) W := Kd.C_string Try.underlying24 Try.underlying5 Try.underlying9 h.l2
end

set_option maxHeartbeats 8000000 in
set_option maxRecDepth 100000 in
theorem lays_any (A0 : Option Addr) (c0 : Nat) (l0 : List Int) (n : ByteArray) (ino : Int) (w : World) (hb : Bytes l0) (hr0 : Kd.C (Kd.int .u8) w A0 l0.length l0) (hc0 : l0.length ≤ c0) (hn : n.size ≤ maxLen) :
    Calls Try.prog 3 #[.agg #[.string n, .int .i64 ino], .slice A0 l0.length c0] w fun e w' => e = .returned (.bool true) ∧ Below w.heap.size w w' := by
  obtain ⟨t, -, htb, ht5, htc, htC, htF⟩ := few_t A0 c0 l0 hr0.2.1 hc0
  have HR := Lib.hid (htC w hr0)
  have HB := Lib.hid (htb hb)
  have HF := Lib.hid htF
  obtain ⟨rb, hrb⟩ : ∃ rb, rightB n.data.toList = rb := ⟨_, rfl⟩
  have hRb : Hid (P.entry_Right.f n = some rb) := Lib.hid (by unfold P.entry_Right.f; rw [hrb])
  have hRm : Hid (C.moatref12_Right.f 20 n = some rb) := Lib.hid ((rright_eq n).trans (congrArg some hrb))
  obtain ⟨L1, e1, hl⟩ : ∃ L1 e1, La.layA n ino = (L1, e1) := ⟨_, _, rfl⟩
  have HL : Hid (P.entry_Lay.f n ino = some (L1, e1)) := Lib.hid (by unfold P.entry_Lay.f; rw [hl])
  have HM : Hid (P.moatref12_Lay.f n ino = some (L1, e1)) := Lib.hid (by unfold P.moatref12_Lay.f; rw [hl])
  obtain ⟨r1, r2, r3, r4, hta⟩ : ∃ r1 r2 r3 r4, takeA t = (r1, r2, r3, r4) := ⟨_, _, _, _, rfl⟩
  have hT1 : Hid (D.entry_Take.f 1 t = some (r1, r2, r3, r4)) := Lib.hid (by rw [take_eq 1 HB.out (Nat.le_refl _), hta])
  have hT2 : Hid (D.moatref12_Take.f 1 t = some (r1, r2, r3, r4)) := Lib.hid (by rw [rtake_eq 1 HB.out (Nat.le_refl _), hta])
  clear hb hr0 htb htC htF hrb hl hta
  have b0 : n.size ≤ 9223372036854775807 := by unfold maxLen at hn; omega
  by_cases hbig : n.size > 1000
  · have b1 : decide ((n.size : Int) > 1000) = true := decide_eq_true (by omega)
    go_enter Try.func3, Try.ntmps3
    go_wp2_with fail
    refine (P.moatlaw12_shown.calls true _ rfl).mono ?_
    rintro e w1 ⟨rfl, hb⟩
    have hB := Lib.hid (below_step (below_alloc (Below.refl _ _) _) hb)
    have d0 : w1.cell? ⟨w.heap.size, 0, none⟩ = some (.string n) := (blk_cell (blk_below (blk_new w (.cells #[.string n, .int .i64 ino] 23)) hb) 0).trans rfl
    clear hb
    go_wp2_with fail
    go_ret
    exact ⟨by simp, hB.out⟩
  · have b1 : decide ((n.size : Int) > 1000) = false := decide_eq_false (by omega)
    have q1 : (rb == rb) = true := beq_self_eq_true _
    have q2 : ((strOfNums L1).toList == (strOfNums L1).toList) = true := beq_self_eq_true _
    have q3 : (e1 == e1) = true := beq_self_eq_true _
    have q4 : (r1.toList == r1.toList) = true := beq_self_eq_true _
    have q5 : (r2 == r2) = true := beq_self_eq_true _
    have q6 : (r3 == r3) = true := beq_self_eq_true _
    have q7 : (r4 == r4) = true := beq_self_eq_true _
    go_enter Try.func3, Try.ntmps3
    go_wp2_with fail
    refine (P.moatlaw12_shown.calls true _ rfl).mono ?_
    rintro e w1 ⟨rfl, hb⟩
    have hx := Lib.hid (blk_below (blk_new w (.cells #[.string n, .int .i64 ino] 23)) hb)
    have hB := Lib.hid (below_step (below_alloc (Below.refl _ _) _) hb)
    have d0 : w1.cell? ⟨w.heap.size, 0, none⟩ = some (.string n) := (blk_cell hx.out 0).trans rfl
    have d1 : w1.cell? ⟨w.heap.size, 1, none⟩ = some (.int .i64 ino) := (blk_cell hx.out 1).trans rfl
    clear hb
    go_wp2_with fail
    refine (P.entry_Lay.calls n ino L1 e1 _ HL.out).mono ?_
    rintro e w2 ⟨v2, rfl, ho2, hb⟩
    obtain ⟨A1, c1, ev, hc1, hr1⟩ := Kd.R_reads ho2
    subst ev
    clear d0 d1
    replace hx := Lib.hid (blk_below hx.out hb)
    replace hB := Lib.hid (below_step hB.out hb)
    replace hr1 := Lib.hid hr1
    clear hb ho2
    have d0 : w2.cell? ⟨w.heap.size, 0, none⟩ = some (.string n) := (blk_cell hx.out 0).trans rfl
    have d1 : w2.cell? ⟨w.heap.size, 1, none⟩ = some (.int .i64 ino) := (blk_cell hx.out 1).trans rfl
    go_wp2_with fail
    refine (P.moatref12_Lay.calls n ino L1 e1 _ HM.out).mono ?_
    rintro e w3 ⟨v3, rfl, ho3, hb⟩
    obtain ⟨A2, c2, ev, hc2, hr2⟩ := Kd.R_reads ho3
    subst ev
    clear d0 d1
    replace hx := Lib.hid (blk_below hx.out hb)
    replace hB := Lib.hid (below_step hB.out hb)
    replace hr1 := Lib.hid (Kd.C_below hr1.out hb)
    replace hr2 := Lib.hid hr2
    clear hb ho3
    go_wp2_with fail
    refine (HF.out _).mono ?_
    rintro e w4 ⟨rfl, hw⟩
    subst hw
    go_wp2_with fail
    refine (D.entry_Take.calls 1 A0 c0 t r1 r2 r3 r4 _ (Kd.C_below HR.out hB.out) htc hT1.out).mono ?_
    rintro e w5 ⟨rfl, hb⟩
    have hb' := below_alloc hb (.cells #[.string r1, .int .i64 r2] 23)
    have hy := Lib.hid (blk_new w5 (.cells #[.string r1, .int .i64 r2] 23))
    replace hx := Lib.hid (blk_below hx.out hb')
    replace hB := Lib.hid (below_step hB.out hb')
    replace hr1 := Lib.hid (Kd.C_below hr1.out hb')
    replace hr2 := Lib.hid (Kd.C_below hr2.out hb')
    clear hb hb'
    go_wp2_with fail
    refine (HF.out _).mono ?_
    rintro e w6 ⟨rfl, hw⟩
    subst hw
    go_wp2_with fail
    refine (D.moatref12_Take.calls 1 A0 c0 t r1 r2 r3 r4 _ (Kd.C_below HR.out hB.out) htc hT2.out).mono ?_
    rintro e w7 ⟨rfl, hb⟩
    have hS0 : LyS w n ino A1 c1 L1 A2 c2 w5.heap.size w7.heap.size r1 r2 (w7.alloc (.cells #[.string r1, .int .i64 r2] 23)) := by
      have hb' := below_alloc hb (.cells #[.string r1, .int .i64 r2] 23)
      exact ⟨blk_below hx.out hb', Kd.C_below hr1.out hb', Kd.C_below hr2.out hb', blk_below hy.out hb', blk_new w7 _, below_step hB.out hb'⟩
    replace hS0 := Lib.hid hS0
    clear hb hx hy hr1 hr2 hB
    go_wp2_with fail
    replace hS0 := hS0.out
    obtain ⟨gy, hgy⟩ : ∃ g, g = w5.heap.size := ⟨_, rfl⟩
    obtain ⟨gz, hgz⟩ : ∃ g, g = w7.heap.size := ⟨_, rfl⟩
    rw [← hgy, ← hgz] at hS0
    rw [← hgy, ← hgz]
    clear hgy hgz
    refine start_ (n := 38) (S := LyS w n ino A1 c1 L1 A2 c2 gy gz r1 r2) (ds := []) #[false, false, false, false, false, false, false, false, false, false, false, false, false, false, false, false, false, false, false, false, false, false, false, false, false, false, false, false, false, false, false, false, false, false, false, false, false, false] (by kernel_rfl) rfl rfl hS0.drew (fun hHeld => ?_)
    refine pure_ (i := 0) (N := some 46) (v := ?_) (a' := ?_) #[true, false, false, false, false, false, false, false, false, false, false, false, false, false, false, false, false, false, false, false, false, false, false, false, false, false, false, false, false, false, false, false, false, false, false, false, false, false] rfl rfl (by kernel_rfl) (fun _ _ _ h => h) (Or.inl ⟨by rfl, ?_⟩) ?_ ?_
    rotate_left
    · intro w'
      go_simp
      with_reducible rfl
    rotate_left
    · simp only [Act.put, List.setIfInBounds_toArray, List.set_cons_zero, List.set_cons_succ, i64_w, i32_w]
      rfl
    refine pure_ (i := 1) (N := some 47) (v := ?_) (a' := ?_) #[true, true, false, false, false, false, false, false, false, false, false, false, false, false, false, false, false, false, false, false, false, false, false, false, false, false, false, false, false, false, false, false, false, false, false, false, false, false] rfl rfl (by kernel_rfl) (fun _ _ _ h => h) (Or.inl ⟨by rfl, ?_⟩) ?_ ?_
    rotate_left
    · intro w'
      go_simp
      with_reducible rfl
    rotate_left
    · simp only [Act.put, List.setIfInBounds_toArray, List.set_cons_zero, List.set_cons_succ, i64_w, i32_w]
      rfl
    refine pure_ (i := 2) (N := some 48) (v := ?_) (a' := ?_) #[true, true, true, false, false, false, false, false, false, false, false, false, false, false, false, false, false, false, false, false, false, false, false, false, false, false, false, false, false, false, false, false, false, false, false, false, false, false] rfl rfl (by kernel_rfl) (fun _ _ _ h => h) (Or.inl ⟨by rfl, ?_⟩) ?_ ?_
    rotate_left
    · intro w'
      go_simp
      with_reducible rfl
    rotate_left
    · simp only [Act.put, List.setIfInBounds_toArray, List.set_cons_zero, List.set_cons_succ, i64_w, i32_w]
      rfl
    refine take_ (i := 3) (N := some 49) (v := ?_) (a' := ?_) #[true, true, true, true, false, false, false, false, false, false, false, false, false, false, false, false, false, false, false, false, false, false, false, false, false, false, false, false, false, false, false, false, false, false, false, false, false, false] rfl rfl (by kernel_rfl) (fun _ _ _ h => h) (Or.inl ⟨by rfl, ?_⟩) hHeld ?_ ?_
    rotate_left
    · rintro w' hS
      have hcv := hS.cx
      go_simp
      with_reducible rfl
    rotate_left
    · simp only [Act.put, List.setIfInBounds_toArray, List.set_cons_zero, List.set_cons_succ, i64_w, i32_w]
      rfl
    refine pure_ (i := 5) (N := some 51) (v := ?_) (a' := ?_) #[true, true, true, true, false, true, false, false, false, false, false, false, false, false, false, false, false, false, false, false, false, false, false, false, false, false, false, false, false, false, false, false, false, false, false, false, false, false] rfl rfl (by kernel_rfl) (fun _ _ _ h => h) (Or.inl ⟨by rfl, ?_⟩) ?_ ?_
    rotate_left
    · intro w'
      go_simp
      with_reducible rfl
    rotate_left
    · simp only [Act.put, List.setIfInBounds_toArray, List.set_cons_zero, List.set_cons_succ, i64_w, i32_w]
      rfl
    refine take_ (i := 6) (N := some 52) (v := ?_) (a' := ?_) #[true, true, true, true, false, true, true, false, false, false, false, false, false, false, false, false, false, false, false, false, false, false, false, false, false, false, false, false, false, false, false, false, false, false, false, false, false, false] rfl rfl (by kernel_rfl) (fun _ _ _ h => h) (Or.inl ⟨by rfl, ?_⟩) hHeld ?_ ?_
    rotate_left
    · rintro w' hS
      have hcv := hS.cx
      go_simp
      with_reducible rfl
    rotate_left
    · simp only [Act.put, List.setIfInBounds_toArray, List.set_cons_zero, List.set_cons_succ, i64_w, i32_w]
      rfl
    refine one_ (i := 4) (N := some 50) #[true, true, true, true, true, true, true, false, false, false, false, false, false, false, false, false, false, false, false, false, false, false, false, false, false, false, false, false, false, false, false, false, false, false, false, false, false, false] rfl rfl (by kernel_rfl) (by decide) (fun K hK => ?_)
    refine goes_ Try.func16 (by kernel_rfl) rfl #[.string n] (by rfl) rfl rfl (by (try simp only [List.map_toArray, List.map_cons, List.map_nil]); first | done | rfl) ?_
    with_reducible refine (P.entry_Right.calls n rb _ hRb.out).mono ?_
    rintro e w9 ⟨rfl, hb⟩
    refine ⟨_, rfl, ?_⟩
    refine hK.out _ _ (hHeld.step hb) (fun hHeld => ?_)
    clear hK K hb
    refine norm_ (a' := ?_) ?_ ?_
    rotate_left
    · show Act.put _ (some 50) _ = _
      simp only [Act.put, List.setIfInBounds_toArray, List.set_cons_zero, List.set_cons_succ, i64_w, i32_w]
      rfl
    refine one_ (i := 7) (N := some 53) #[true, true, true, true, true, true, true, true, false, false, false, false, false, false, false, false, false, false, false, false, false, false, false, false, false, false, false, false, false, false, false, false, false, false, false, false, false, false] rfl rfl (by kernel_rfl) (by decide) (fun K hK => ?_)
    refine goes_ Try.func17 (by kernel_rfl) rfl #[.string n] (by rfl) rfl rfl (by (try simp only [List.map_toArray, List.map_cons, List.map_nil]); first | done | rfl) ?_
    with_reducible refine (C.moatref12_Right.calls 20 n rb _ hRm.out).mono ?_
    rintro e w9 ⟨rfl, hb⟩
    refine ⟨_, rfl, ?_⟩
    refine hK.out _ _ (hHeld.step hb.below) (fun hHeld => ?_)
    clear hK K hb
    refine norm_ (a' := ?_) ?_ ?_
    rotate_left
    · show Act.put _ (some 53) _ = _
      simp only [Act.put, List.setIfInBounds_toArray, List.set_cons_zero, List.set_cons_succ, i64_w, i32_w]
      rfl
    refine pure_ (i := 8) (N := some 54) (v := ?_) (a' := ?_) #[true, true, true, true, true, true, true, true, true, false, false, false, false, false, false, false, false, false, false, false, false, false, false, false, false, false, false, false, false, false, false, false, false, false, false, false, false, false] rfl rfl (by kernel_rfl) (fun _ _ _ h => h) (Or.inl ⟨by rfl, ?_⟩) ?_ ?_
    rotate_left
    · intro w'
      go_simp
      with_reducible rfl
    rotate_left
    · simp only [Act.put, List.setIfInBounds_toArray, List.set_cons_zero, List.set_cons_succ, i64_w, i32_w]
      rfl
    refine pure_ (i := 9) (N := some 55) (v := ?_) (a' := ?_) #[true, true, true, true, true, true, true, true, true, true, false, false, false, false, false, false, false, false, false, false, false, false, false, false, false, false, false, false, false, false, false, false, false, false, false, false, false, false] rfl rfl (by kernel_rfl) (fun _ _ _ h => h) (Or.inl ⟨by rfl, ?_⟩) ?_ ?_
    rotate_left
    · intro w'
      go_simp
      with_reducible rfl
    rotate_left
    · simp only [Act.put, List.setIfInBounds_toArray, List.set_cons_zero, List.set_cons_succ, i64_w, i32_w]
      rfl
    refine pure_ (i := 10) (N := some 56) (v := ?_) (a' := ?_) #[true, true, true, true, true, true, true, true, true, true, true, false, false, false, false, false, false, false, false, false, false, false, false, false, false, false, false, false, false, false, false, false, false, false, false, false, false, false] rfl rfl (by kernel_rfl) (fun _ _ _ h => h) (Or.inl ⟨by rfl, ?_⟩) ?_ ?_
    rotate_left
    · intro w'
      go_simp
      with_reducible rfl
    rotate_left
    · simp only [Act.put, List.setIfInBounds_toArray, List.set_cons_zero, List.set_cons_succ, i64_w, i32_w]
      rfl
    refine pure_ (i := 11) (N := some 57) (v := ?_) (a' := ?_) #[true, true, true, true, true, true, true, true, true, true, true, true, false, false, false, false, false, false, false, false, false, false, false, false, false, false, false, false, false, false, false, false, false, false, false, false, false, false] rfl rfl (by kernel_rfl) (fun _ _ _ h => h) (Or.inl ⟨by rfl, ?_⟩) ?_ ?_
    rotate_left
    · intro w'
      go_simp
      with_reducible rfl
    rotate_left
    · simp only [Act.put, List.setIfInBounds_toArray, List.set_cons_zero, List.set_cons_succ, i64_w, i32_w]
      rfl
    refine take_ (i := 12) (N := some 58) (v := ?_) (a' := ?_) #[true, true, true, true, true, true, true, true, true, true, true, true, true, false, false, false, false, false, false, false, false, false, false, false, false, false, false, false, false, false, false, false, false, false, false, false, false, false] rfl rfl (by kernel_rfl) (fun _ _ _ h => h) (Or.inl ⟨by rfl, ?_⟩) hHeld ?_ ?_
    rotate_left
    · rintro w' hS
      have hcv := hS.cv1
      go_simp
      with_reducible rfl
    rotate_left
    · simp only [Act.put, List.setIfInBounds_toArray, List.set_cons_zero, List.set_cons_succ, i64_w, i32_w]
      rfl
    refine pure_ (i := 13) (N := some 59) (v := ?_) (a' := ?_) #[true, true, true, true, true, true, true, true, true, true, true, true, true, true, false, false, false, false, false, false, false, false, false, false, false, false, false, false, false, false, false, false, false, false, false, false, false, false] rfl rfl (by kernel_rfl) (fun _ _ _ h => h) (Or.inl ⟨by rfl, ?_⟩) ?_ ?_
    rotate_left
    · intro w'
      go_simp
      with_reducible rfl
    rotate_left
    · simp only [Act.put, List.setIfInBounds_toArray, List.set_cons_zero, List.set_cons_succ, i64_w, i32_w]
      rfl
    refine take_ (i := 14) (N := some 60) (v := ?_) (a' := ?_) #[true, true, true, true, true, true, true, true, true, true, true, true, true, true, true, false, false, false, false, false, false, false, false, false, false, false, false, false, false, false, false, false, false, false, false, false, false, false] rfl rfl (by kernel_rfl) (fun _ _ _ h => h) (Or.inl ⟨by rfl, ?_⟩) hHeld ?_ ?_
    rotate_left
    · rintro w' hS
      have hcv := hS.cv2
      go_simp
      with_reducible rfl
    rotate_left
    · simp only [Act.put, List.setIfInBounds_toArray, List.set_cons_zero, List.set_cons_succ, i64_w, i32_w]
      rfl
    refine pure_ (i := 15) (N := some 61) (v := ?_) (a' := ?_) #[true, true, true, true, true, true, true, true, true, true, true, true, true, true, true, true, false, false, false, false, false, false, false, false, false, false, false, false, false, false, false, false, false, false, false, false, false, false] rfl rfl (by kernel_rfl) (fun _ _ _ h => h) (Or.inl ⟨by rfl, ?_⟩) ?_ ?_
    rotate_left
    · intro w'
      go_simp
      with_reducible rfl
    rotate_left
    · simp only [Act.put, List.setIfInBounds_toArray, List.set_cons_zero, List.set_cons_succ, i64_w, i32_w]
      rfl
    refine pure_ (i := 16) (N := some 62) (v := ?_) (a' := ?_) #[true, true, true, true, true, true, true, true, true, true, true, true, true, true, true, true, true, false, false, false, false, false, false, false, false, false, false, false, false, false, false, false, false, false, false, false, false, false] rfl rfl (by kernel_rfl) (fun _ _ _ h => h) (Or.inl ⟨by rfl, ?_⟩) ?_ ?_
    rotate_left
    · intro w'
      go_simp
      with_reducible rfl
    rotate_left
    · simp only [Act.put, List.setIfInBounds_toArray, List.set_cons_zero, List.set_cons_succ, i64_w, i32_w]
      rfl
    refine pure_ (i := 17) (N := some 63) (v := ?_) (a' := ?_) #[true, true, true, true, true, true, true, true, true, true, true, true, true, true, true, true, true, true, false, false, false, false, false, false, false, false, false, false, false, false, false, false, false, false, false, false, false, false] rfl rfl (by kernel_rfl) (fun _ _ _ h => h) (Or.inl ⟨by rfl, ?_⟩) ?_ ?_
    rotate_left
    · intro w'
      go_simp
      with_reducible rfl
    rotate_left
    · simp only [Act.put, List.setIfInBounds_toArray, List.set_cons_zero, List.set_cons_succ, i64_w, i32_w]
      rfl
    refine pure_ (i := 18) (N := some 64) (v := ?_) (a' := ?_) #[true, true, true, true, true, true, true, true, true, true, true, true, true, true, true, true, true, true, true, false, false, false, false, false, false, false, false, false, false, false, false, false, false, false, false, false, false, false] rfl rfl (by kernel_rfl) (fun _ _ _ h => h) (Or.inl ⟨by rfl, ?_⟩) ?_ ?_
    rotate_left
    · intro w'
      go_simp
      with_reducible rfl
    rotate_left
    · simp only [Act.put, List.setIfInBounds_toArray, List.set_cons_zero, List.set_cons_succ, i64_w, i32_w]
      rfl
    refine pure_ (i := 19) (N := some 65) (v := ?_) (a' := ?_) #[true, true, true, true, true, true, true, true, true, true, true, true, true, true, true, true, true, true, true, true, false, false, false, false, false, false, false, false, false, false, false, false, false, false, false, false, false, false] rfl rfl (by kernel_rfl) (fun _ _ _ h => h) (Or.inl ⟨by rfl, ?_⟩) ?_ ?_
    rotate_left
    · intro w'
      go_simp
      with_reducible rfl
    rotate_left
    · simp only [Act.put, List.setIfInBounds_toArray, List.set_cons_zero, List.set_cons_succ, i64_w, i32_w]
      rfl
    refine pure_ (i := 20) (N := some 66) (v := ?_) (a' := ?_) #[true, true, true, true, true, true, true, true, true, true, true, true, true, true, true, true, true, true, true, true, true, false, false, false, false, false, false, false, false, false, false, false, false, false, false, false, false, false] rfl rfl (by kernel_rfl) (fun _ _ _ h => h) (Or.inl ⟨by rfl, ?_⟩) ?_ ?_
    rotate_left
    · intro w'
      go_simp
      with_reducible rfl
    rotate_left
    · simp only [Act.put, List.setIfInBounds_toArray, List.set_cons_zero, List.set_cons_succ, i64_w, i32_w]
      rfl
    refine pure_ (i := 21) (N := some 67) (v := ?_) (a' := ?_) #[true, true, true, true, true, true, true, true, true, true, true, true, true, true, true, true, true, true, true, true, true, true, false, false, false, false, false, false, false, false, false, false, false, false, false, false, false, false] rfl rfl (by kernel_rfl) (fun _ _ _ h => h) (Or.inl ⟨by rfl, ?_⟩) ?_ ?_
    rotate_left
    · intro w'
      go_simp
      with_reducible rfl
    rotate_left
    · simp only [Act.put, List.setIfInBounds_toArray, List.set_cons_zero, List.set_cons_succ, i64_w, i32_w]
      rfl
    refine pure_ (i := 22) (N := some 68) (v := ?_) (a' := ?_) #[true, true, true, true, true, true, true, true, true, true, true, true, true, true, true, true, true, true, true, true, true, true, true, false, false, false, false, false, false, false, false, false, false, false, false, false, false, false] rfl rfl (by kernel_rfl) (fun _ _ _ h => h) (Or.inl ⟨by rfl, ?_⟩) ?_ ?_
    rotate_left
    · intro w'
      go_simp
      with_reducible rfl
    rotate_left
    · simp only [Act.put, List.setIfInBounds_toArray, List.set_cons_zero, List.set_cons_succ, i64_w, i32_w]
      rfl
    refine take_ (i := 23) (N := some 69) (v := ?_) (a' := ?_) #[true, true, true, true, true, true, true, true, true, true, true, true, true, true, true, true, true, true, true, true, true, true, true, true, false, false, false, false, false, false, false, false, false, false, false, false, false, false] rfl rfl (by kernel_rfl) (fun _ _ _ h => h) (Or.inl ⟨by rfl, ?_⟩) hHeld ?_ ?_
    rotate_left
    · rintro w' hS
      obtain ⟨g0, g1⟩ := hS.cy
      go_simp
      with_reducible rfl
    rotate_left
    · simp only [Act.put, List.setIfInBounds_toArray, List.set_cons_zero, List.set_cons_succ, i64_w, i32_w]
      rfl
    refine take_ (i := 24) (N := some 70) (v := ?_) (a' := ?_) #[true, true, true, true, true, true, true, true, true, true, true, true, true, true, true, true, true, true, true, true, true, true, true, true, true, false, false, false, false, false, false, false, false, false, false, false, false, false] rfl rfl (by kernel_rfl) (fun _ _ _ h => h) (Or.inl ⟨by rfl, ?_⟩) hHeld ?_ ?_
    rotate_left
    · rintro w' hS
      obtain ⟨g0, g1⟩ := hS.cz
      go_simp
      with_reducible rfl
    rotate_left
    · simp only [Act.put, List.setIfInBounds_toArray, List.set_cons_zero, List.set_cons_succ, i64_w, i32_w]
      rfl
    refine pure_ (i := 25) (N := some 71) (v := ?_) (a' := ?_) #[true, true, true, true, true, true, true, true, true, true, true, true, true, true, true, true, true, true, true, true, true, true, true, true, true, true, false, false, false, false, false, false, false, false, false, false, false, false] rfl rfl (by kernel_rfl) (fun _ _ _ h => h) (Or.inl ⟨by rfl, ?_⟩) ?_ ?_
    rotate_left
    · intro w'
      go_simp
      with_reducible rfl
    rotate_left
    · simp only [Act.put, List.setIfInBounds_toArray, List.set_cons_zero, List.set_cons_succ, i64_w, i32_w]
      rfl
    refine pure_ (i := 26) (N := some 72) (v := ?_) (a' := ?_) #[true, true, true, true, true, true, true, true, true, true, true, true, true, true, true, true, true, true, true, true, true, true, true, true, true, true, true, false, false, false, false, false, false, false, false, false, false, false] rfl rfl (by kernel_rfl) (fun _ _ _ h => h) (Or.inl ⟨by rfl, ?_⟩) ?_ ?_
    rotate_left
    · intro w'
      go_simp
      with_reducible rfl
    rotate_left
    · simp only [Act.put, List.setIfInBounds_toArray, List.set_cons_zero, List.set_cons_succ, i64_w, i32_w]
      rfl
    refine pure_ (i := 27) (N := some 73) (v := ?_) (a' := ?_) #[true, true, true, true, true, true, true, true, true, true, true, true, true, true, true, true, true, true, true, true, true, true, true, true, true, true, true, true, false, false, false, false, false, false, false, false, false, false] rfl rfl (by kernel_rfl) (fun _ _ _ h => h) (Or.inl ⟨by rfl, ?_⟩) ?_ ?_
    rotate_left
    · intro w'
      go_simp
      with_reducible rfl
    rotate_left
    · simp only [Act.put, List.setIfInBounds_toArray, List.set_cons_zero, List.set_cons_succ, i64_w, i32_w]
      rfl
    refine pure_ (i := 28) (N := some 74) (v := ?_) (a' := ?_) #[true, true, true, true, true, true, true, true, true, true, true, true, true, true, true, true, true, true, true, true, true, true, true, true, true, true, true, true, true, false, false, false, false, false, false, false, false, false] rfl rfl (by kernel_rfl) (fun _ _ _ h => h) (Or.inl ⟨by rfl, ?_⟩) ?_ ?_
    rotate_left
    · intro w'
      go_simp
      with_reducible rfl
    rotate_left
    · simp only [Act.put, List.setIfInBounds_toArray, List.set_cons_zero, List.set_cons_succ, i64_w, i32_w]
      rfl
    refine pure_ (i := 29) (N := some 75) (v := ?_) (a' := ?_) #[true, true, true, true, true, true, true, true, true, true, true, true, true, true, true, true, true, true, true, true, true, true, true, true, true, true, true, true, true, true, false, false, false, false, false, false, false, false] rfl rfl (by kernel_rfl) (fun _ _ _ h => h) (Or.inl ⟨by rfl, ?_⟩) ?_ ?_
    rotate_left
    · intro w'
      go_simp
      with_reducible rfl
    rotate_left
    · simp only [Act.put, List.setIfInBounds_toArray, List.set_cons_zero, List.set_cons_succ, i64_w, i32_w]
      rfl
    refine pure_ (i := 30) (N := some 76) (v := ?_) (a' := ?_) #[true, true, true, true, true, true, true, true, true, true, true, true, true, true, true, true, true, true, true, true, true, true, true, true, true, true, true, true, true, true, true, false, false, false, false, false, false, false] rfl rfl (by kernel_rfl) (fun _ _ _ h => h) (Or.inl ⟨by rfl, ?_⟩) ?_ ?_
    rotate_left
    · intro w'
      go_simp
      with_reducible rfl
    rotate_left
    · simp only [Act.put, List.setIfInBounds_toArray, List.set_cons_zero, List.set_cons_succ, i64_w, i32_w]
      rfl
    refine pure_ (i := 31) (N := some 77) (v := ?_) (a' := ?_) #[true, true, true, true, true, true, true, true, true, true, true, true, true, true, true, true, true, true, true, true, true, true, true, true, true, true, true, true, true, true, true, true, false, false, false, false, false, false] rfl rfl (by kernel_rfl) (fun _ _ _ h => h) (Or.inl ⟨by rfl, ?_⟩) ?_ ?_
    rotate_left
    · intro w'
      go_simp
      with_reducible rfl
    rotate_left
    · simp only [Act.put, List.setIfInBounds_toArray, List.set_cons_zero, List.set_cons_succ, i64_w, i32_w]
      rfl
    refine pure_ (i := 32) (N := some 78) (v := ?_) (a' := ?_) #[true, true, true, true, true, true, true, true, true, true, true, true, true, true, true, true, true, true, true, true, true, true, true, true, true, true, true, true, true, true, true, true, true, false, false, false, false, false] rfl rfl (by kernel_rfl) (fun _ _ _ h => h) (Or.inl ⟨by rfl, ?_⟩) ?_ ?_
    rotate_left
    · intro w'
      go_simp
      with_reducible rfl
    rotate_left
    · simp only [Act.put, List.setIfInBounds_toArray, List.set_cons_zero, List.set_cons_succ, i64_w, i32_w]
      rfl
    refine pure_ (i := 33) (N := some 79) (v := ?_) (a' := ?_) #[true, true, true, true, true, true, true, true, true, true, true, true, true, true, true, true, true, true, true, true, true, true, true, true, true, true, true, true, true, true, true, true, true, true, false, false, false, false] rfl rfl (by kernel_rfl) (fun _ _ _ h => h) (Or.inl ⟨by rfl, ?_⟩) ?_ ?_
    rotate_left
    · intro w'
      go_simp
      with_reducible rfl
    rotate_left
    · simp only [Act.put, List.setIfInBounds_toArray, List.set_cons_zero, List.set_cons_succ, i64_w, i32_w]
      rfl
    refine pure_ (i := 34) (N := some 80) (v := ?_) (a' := ?_) #[true, true, true, true, true, true, true, true, true, true, true, true, true, true, true, true, true, true, true, true, true, true, true, true, true, true, true, true, true, true, true, true, true, true, true, false, false, false] rfl rfl (by kernel_rfl) (fun _ _ _ h => h) (Or.inl ⟨by rfl, ?_⟩) ?_ ?_
    rotate_left
    · intro w'
      go_simp
      with_reducible rfl
    rotate_left
    · simp only [Act.put, List.setIfInBounds_toArray, List.set_cons_zero, List.set_cons_succ, i64_w, i32_w]
      rfl
    refine pure_ (i := 35) (N := some 81) (v := ?_) (a' := ?_) #[true, true, true, true, true, true, true, true, true, true, true, true, true, true, true, true, true, true, true, true, true, true, true, true, true, true, true, true, true, true, true, true, true, true, true, true, false, false] rfl rfl (by kernel_rfl) (fun _ _ _ h => h) (Or.inl ⟨by rfl, ?_⟩) ?_ ?_
    rotate_left
    · intro w'
      go_simp
      with_reducible rfl
    rotate_left
    · simp only [Act.put, List.setIfInBounds_toArray, List.set_cons_zero, List.set_cons_succ, i64_w, i32_w]
      rfl
    refine pure_ (i := 36) (N := some 82) (v := ?_) (a' := ?_) #[true, true, true, true, true, true, true, true, true, true, true, true, true, true, true, true, true, true, true, true, true, true, true, true, true, true, true, true, true, true, true, true, true, true, true, true, true, false] rfl rfl (by kernel_rfl) (fun _ _ _ h => h) (Or.inl ⟨by rfl, ?_⟩) ?_ ?_
    rotate_left
    · intro w'
      go_simp
      with_reducible rfl
    rotate_left
    · simp only [Act.put, List.setIfInBounds_toArray, List.set_cons_zero, List.set_cons_succ, i64_w, i32_w]
      rfl
    refine pure_ (i := 37) (N := some 4) (v := ?_) (a' := ?_) #[true, true, true, true, true, true, true, true, true, true, true, true, true, true, true, true, true, true, true, true, true, true, true, true, true, true, true, true, true, true, true, true, true, true, true, true, true, true] rfl rfl (by kernel_rfl) (fun _ _ _ h => h) (Or.inl ⟨by rfl, ?_⟩) ?_ ?_
    rotate_left
    · intro w'
      go_simp
      with_reducible rfl
    rotate_left
    · simp only [Act.put, List.setIfInBounds_toArray, List.set_cons_zero, List.set_cons_succ, i64_w, i32_w]
      rfl
    refine done_ (by kernel_rfl) ?_
    go_wp2_with fail
    go_ret
    exact ⟨rfl, hHeld.below⟩
end Go.Proofs.Ytinfjmdcmfpdiaa.Lw

/- EntryAdds: its walk. -/
namespace Go.Proofs.Ytinfjmdcmfpdiaa.Lw
open Go.RowKit Go.Proofs.Ytinfjmdcmfpdiaa.Rt Go.Proofs.Ytinfjmdcmfpdiaa.Md Go.Proofs.Ytinfjmdcmfpdiaa.Al Go.Proofs.Ytinfjmdcmfpdiaa.Pc Go.Proofs.Ytinfjmdcmfpdiaa.Fn Go.Proofs.Ytinfjmdcmfpdiaa.Ad Go.Proofs.Ytinfjmdcmfpdiaa.Rm Go.Proofs.YtinfjmdcmfpdiaaW.PrintWords Go.Proofs.YtinfjmdcmfpdiaaW.PrintLast Go.Proofs.YtinfjmdcmfpdiaaW.PrintMore
set_option linter.unusedVariables false
set_option linter.unusedSimpArgs false

/-- The entry's box stands. -/
structure AdS (w : World) (n : ByteArray) (ino : Int) (W : World) : Prop where
  x : W.heap[w.heap.size]? = some (.cells #[.string n, .int .i64 ino] 23 (0, 0))
  below : Below w.heap.size w W
section
variable {w W W' : World} {n : ByteArray} {ino : Int}
theorem AdS.step (h : AdS w n ino W) (hb : Below W.heap.size W W') : AdS w n ino W' := ⟨blk_below h.x hb, below_step h.below hb⟩
theorem AdS.drew (h : AdS w n ino W) : AdS w n ino W.drew := h.step (below_drew1 (Below.refl _ _))
theorem AdS.cells (h : AdS w n ino W) : W.cell? ⟨w.heap.size, 0, none⟩ = some (.string n) ∧ W.cell? ⟨w.heap.size, 1, none⟩ = some (.int .i64 ino) := ⟨(blk_cell h.x 0).trans rfl, (blk_cell h.x 1).trans rfl⟩
end
theorem add_eq (A0 : Option Addr) (c0 : Nat) (l0 : List Int) (n : ByteArray) (ino : Int) (C : List Int) (E : Int) (w : World) (hn : n.size ≤ maxLen) (hb : Bytes l0) (hr0 : Kd.C (Kd.int .u8) w A0 l0.length l0) (hc0 : l0.length ≤ c0) (h : addA l0 n ino = (C, E)) :
    Calls Try.prog 18 #[.slice A0 l0.length c0, .agg #[.string n, .int .i64 ino]] w fun e w' => ∃ v : Value, e = .returned (.tuple #[v, .int .i64 E]) ∧ Kd.R (Kd.int .u8) 5 w' w.heap.size (fun _ => True) v C ∧ Below w.heap.size w w' := by
  have := add_any A0 c0 l0 n ino w hn hb hr0 hc0
  rw [h] at this
  exact this
theorem rm_eq (A0 : Option Addr) (c0 : Nat) (l0 : List Int) (n : ByteArray) (C : List Int) (E : Int) (w : World) (hn : n.size ≤ maxLen) (hb : Bytes l0) (hr0 : Kd.C (Kd.int .u8) w A0 l0.length l0) (hc0 : l0.length ≤ c0) (h : removeA l0 n = (C, E)) :
    Calls Try.prog 20 #[.slice A0 l0.length c0, .string n] w fun e w' => ∃ v : Value, e = .returned (.tuple #[v, .int .i64 E]) ∧ Kd.R (Kd.int .u8) 5 w' w.heap.size (fun _ => True) v C ∧ Below w.heap.size w w' := by
  have := remove_any A0 c0 l0 n w hn hb hr0 hc0
  rw [h] at this
  exact this
theorem fillS_le (s : List Sl) (hs : s.length ≤ 240) (hok : AllOk s) (e : ByteArray × Int) (he : okE e) (F : Option Nat) : (fillS s e F).1.length ≤ 3840 := by
  cases F with
  | some k => show (bytesS (s.set k (some e))).length ≤ 3840; rw [bytesS_len (hok.set k (fun e' h => by injection h with h; rw [← h]; exact he)), List.length_set]; omega
  | none =>
    unfold fillS
    by_cases h : s.length < 240
    · simp only; rw [if_pos h]; show (bytesS (s ++ [some e])).length ≤ 3840; rw [bytesS_len (hok.append (.one he)), List.length_append]; simp; omega
    · simp only; rw [if_neg h]; simp
theorem addA_le (l : List Int) (n : ByteArray) (i : Int) : (addA l n i).1.length ≤ 3840 := by
  unfold addA
  cases hd : dirO l with
  | none => simp
  | some s =>
    obtain ⟨_, hg⟩ := dir_good hd
    simp only
    unfold addS
    by_cases h0 : (La.layA n i).2 = 0
    · rw [if_pos h0]
      split
      · simp
      · obtain ⟨k1, k2, k3, k4⟩ := layA_ok (show La.layA n i = ((La.layA n i).1, 0) from Prod.ext rfl h0)
        exact fillS_le s hg.room hg.ok (n, i) ⟨k1, k2, k3⟩ _
    · rw [if_neg h0]; simp
theorem trimGo_len (t : List Sl) : ∀ m, m ≤ t.length → (trimGo t m).length ≤ m ∧ ∀ o ∈ trimGo t m, o ∈ t := by
  intro m
  induction m with
  | zero => intro _; exact ⟨Nat.le_refl _, fun o h => by simp [trimGo] at h⟩
  | succ m ih =>
    intro hm
    simp only [trimGo]
    split
    · obtain ⟨h1, h2⟩ := ih (by omega)
      exact ⟨by omega, h2⟩
    · exact ⟨by rw [List.length_take]; omega, fun o h => List.mem_of_mem_take h⟩
theorem trim_ok {t : List Sl} (h : AllOk t) : AllOk (trim t) ∧ (trim t).length ≤ t.length := by
  obtain ⟨h1, h2⟩ := trimGo_len t t.length (Nat.le_refl _)
  exact ⟨fun e he => h e (h2 _ he), h1⟩
theorem removeA_le (l : List Int) (n : ByteArray) : (removeA l n).1.length ≤ 3840 := by
  unfold removeA
  cases hd : dirO l with
  | none => simp
  | some s =>
    obtain ⟨_, hg⟩ := dir_good hd
    simp only
    unfold removeS
    split
    · obtain ⟨h1, h2⟩ := trim_ok (hg.ok.set (placeA s n).toNat (o := none) (fun e h => by cases h))
      have := hg.room
      show (bytesS _).length ≤ 3840
      rw [bytesS_len h1]
      rw [List.length_set] at h2
      omega
    · simp

set_option maxHeartbeats 8000000 in
set_option maxRecDepth 100000 in
theorem adds_any (A0 : Option Addr) (c0 : Nat) (l0 : List Int) (n : ByteArray) (ino : Int) (m : ByteArray) (w : World) (hb : Bytes l0) (hr0 : Kd.C (Kd.int .u8) w A0 l0.length l0) (hc0 : l0.length ≤ c0) (hn : n.size ≤ maxLen) (hm : m.size ≤ maxLen) :
    Calls Try.prog 4 #[.slice A0 l0.length c0, .agg #[.string n, .int .i64 ino], .string m] w fun e w' => e = .returned (.bool true) ∧ Below w.heap.size w w' := by
  obtain ⟨t, -, htb, ht5, htc, htC, htF⟩ := few_t A0 c0 l0 hr0.2.1 hc0
  have HR := Lib.hid (htC w hr0)
  have HB := Lib.hid (htb hb)
  have HF := Lib.hid htF
  obtain ⟨K1, k1⟩ := (add_ev HB.out n ino).rounds
  obtain ⟨K2, k2⟩ := (remove_ev HB.out m).rounds
  have hC1 := addA_le t n ino
  have hG1 := removeA_le t m
  obtain ⟨C1, E1, hA⟩ : ∃ C E, addA t n ino = (C, E) := ⟨_, _, rfl⟩
  obtain ⟨G1, H1, hG⟩ : ∃ C E, removeA t m = (C, E) := ⟨_, _, rfl⟩
  rw [hA] at k1 hC1
  rw [hG] at k2 hG1
  simp only at hC1 hG1
  replace k1 := Lib.hid k1
  replace k2 := Lib.hid k2
  replace hA := Lib.hid hA
  replace hG := Lib.hid hG
  clear hb hr0 htb htC htF
  have b0 : n.size ≤ 9223372036854775807 := by unfold maxLen at hn; omega
  have b0' : m.size ≤ 9223372036854775807 := by unfold maxLen at hm; omega
  by_cases hbig : n.size > 1000 ∨ m.size > 1000
  · have hsplit : decide ((n.size : Int) > 1000) = true ∨ (decide ((n.size : Int) > 1000) = false ∧ decide ((m.size : Int) > 1000) = true) := by
      by_cases h : n.size > 1000
      · exact .inl (decide_eq_true (by omega))
      · exact .inr ⟨decide_eq_false (by omega), decide_eq_true (by omega)⟩
    rcases hsplit with b1 | ⟨b1, b2⟩
    all_goals
      go_enter Try.func4, Try.ntmps4
      go_wp2_with fail
      refine (P.moatlaw12_shown.calls true _ rfl).mono ?_
      rintro e w1 ⟨rfl, hb⟩
      have hB := Lib.hid (below_step (below_alloc (Below.refl _ _) _) hb)
      have d0 : w1.cell? ⟨w.heap.size, 0, none⟩ = some (.string n) := (blk_cell (blk_below (blk_new w (.cells #[.string n, .int .i64 ino] 23)) hb) 0).trans rfl
      clear hb
      go_wp2_with fail
      go_ret
      exact ⟨by simp, hB.out⟩
  · have b1 : decide ((n.size : Int) > 1000) = false := decide_eq_false (by omega)
    have b2 : decide ((m.size : Int) > 1000) = false := decide_eq_false (by omega)
    have q1 : ((strOfNums C1).toList == (strOfNums C1).toList) = true := beq_self_eq_true _
    have q2 : (E1 == E1) = true := beq_self_eq_true _
    have q3 : ((strOfNums G1).toList == (strOfNums G1).toList) = true := beq_self_eq_true _
    have q4 : (H1 == H1) = true := beq_self_eq_true _
    have q5 : ((strOfNums t).toList == (strOfNums t).toList) = true := beq_self_eq_true _
    go_enter Try.func4, Try.ntmps4
    go_wp2_with fail
    refine (P.moatlaw12_shown.calls true _ rfl).mono ?_
    rintro e w1 ⟨rfl, hb⟩
    have hS := Lib.hid (AdS.mk (blk_below (blk_new w (.cells #[.string n, .int .i64 ino] 23)) hb) (below_step (below_alloc (Below.refl _ _) _) hb))
    clear hb
    have d0 : w1.cell? ⟨w.heap.size, 0, none⟩ = some (.string n) := hS.out.cells.1
    go_wp2_with fail
    refine (HF.out _).mono ?_
    rintro e w2 ⟨rfl, hw⟩
    subst hw
    have hcv := Kd.C_string (P := Try.prog) (c := c0) Try.underlying24 Try.underlying5 Try.underlying9 (Kd.C_below HR.out hS.out.below)
    clear d0
    go_wp2_with fail
    clear hcv
    refine start_ (n := 9) (S := AdS w n ino) (ds := []) #[false, false, false, false, false, false, false, false, false] (by kernel_rfl) rfl rfl hS.out.drew (fun hHeld => ?_)
    refine pure_ (i := 0) (N := some 35) (v := ?_) (a' := ?_) #[true, false, false, false, false, false, false, false, false] rfl rfl (by kernel_rfl) (fun _ _ _ h => h) (Or.inl ⟨by rfl, ?_⟩) ?_ ?_
    rotate_left
    · intro w'
      go_simp
      with_reducible rfl
    rotate_left
    · simp only [Act.put, List.setIfInBounds_toArray, List.set_cons_zero, List.set_cons_succ, i64_w, i32_w]
      rfl
    refine take_ (i := 2) (N := some 37) (v := ?_) (a' := ?_) #[true, false, true, false, false, false, false, false, false] rfl rfl (by kernel_rfl) (fun _ _ _ h => h) (Or.inl ⟨by rfl, ?_⟩) hHeld ?_ ?_
    rotate_left
    · rintro w' hS
      obtain ⟨g0, g1⟩ := hS.cells
      go_simp
      with_reducible rfl
    rotate_left
    · simp only [Act.put, List.setIfInBounds_toArray, List.set_cons_zero, List.set_cons_succ, i64_w, i32_w]
      rfl
    refine one_ (i := 1) (N := some 36) #[true, true, true, false, false, false, false, false, false] rfl rfl (by kernel_rfl) (by decide) (fun K hK => ?_)
    refine goes_ Try.func14 (by kernel_rfl) rfl #[.slice A0 l0.length c0] (by rfl) rfl rfl (by (try simp only [List.map_toArray, List.map_cons, List.map_nil]); first | done | rfl) ?_
    with_reducible refine (HF.out _).mono ?_
    rintro e w9 ⟨rfl, hw⟩
    refine ⟨_, rfl, ?_⟩
    subst hw
    refine hK.out _ _ hHeld (fun hHeld => ?_)
    clear hK K
    refine norm_ (a' := ?_) ?_ ?_
    rotate_left
    · show Act.put _ (some 36) _ = _
      simp only [Act.put, List.setIfInBounds_toArray, List.set_cons_zero, List.set_cons_succ, i64_w, i32_w]
      rfl
    refine one_ (i := 3) (N := some 38) #[true, true, true, true, false, false, false, false, false] rfl rfl (by kernel_rfl) (by decide) (fun K hK => ?_)
    refine goes_ Try.func18 (by kernel_rfl) rfl #[.slice A0 t.length c0, .agg #[.string n, .int .i64 ino]] (by rfl) rfl rfl (by (try simp only [List.map_toArray, List.map_cons, List.map_nil]); first | done | rfl) ?_
    with_reducible refine (add_eq A0 c0 t n ino C1 E1 _ hn HB.out (Kd.C_below HR.out hHeld.below) htc hA.out).mono ?_
    rintro e w2 ⟨v1, rfl, hoc, hb⟩
    refine ⟨_, rfl, ?_⟩
    have hS2 := hHeld.step hb
    obtain ⟨A1, c1, ev⟩ := Kd.R_slice hoc
    subst ev
    replace hoc := Lib.hid (Kd.R_lower hoc hHeld.below.size)
    refine hK.out _ _ hS2 (fun hHeld => ?_)
    clear hK K hb
    refine norm_ (a' := ?_) ?_ ?_
    rotate_left
    · show Act.put _ (some 38) _ = _
      simp only [Act.put, List.setIfInBounds_toArray, List.set_cons_zero, List.set_cons_succ, i64_w, i32_w]
      rfl
    refine pure_ (i := 4) (N := some 34) (v := ?_) (a' := ?_) #[true, true, true, true, true, false, false, false, false] rfl rfl (by kernel_rfl) (fun _ _ _ h => h) (Or.inl ⟨by rfl, ?_⟩) ?_ ?_
    rotate_left
    · intro w'
      go_simp
      with_reducible rfl
    rotate_left
    · simp only [Act.put, List.setIfInBounds_toArray, List.set_cons_zero, List.set_cons_succ, i64_w, i32_w]
      rfl
    refine pure_ (i := 5) (N := some 39) (v := ?_) (a' := ?_) #[true, true, true, true, true, true, false, false, false] rfl rfl (by kernel_rfl) (fun _ _ _ h => h) (Or.inl ⟨by rfl, ?_⟩) ?_ ?_
    rotate_left
    · intro w'
      go_simp
      with_reducible rfl
    rotate_left
    · simp only [Act.put, List.setIfInBounds_toArray, List.set_cons_zero, List.set_cons_succ, i64_w, i32_w]
      rfl
    refine pure_ (i := 6) (N := some 40) (v := ?_) (a' := ?_) #[true, true, true, true, true, true, true, false, false] rfl rfl (by kernel_rfl) (fun _ _ _ h => h) (Or.inl ⟨by rfl, ?_⟩) ?_ ?_
    rotate_left
    · intro w'
      go_simp
      with_reducible rfl
    rotate_left
    · simp only [Act.put, List.setIfInBounds_toArray, List.set_cons_zero, List.set_cons_succ, i64_w, i32_w]
      rfl
    refine pure_ (i := 7) (N := some 9) (v := ?_) (a' := ?_) #[true, true, true, true, true, true, true, true, false] rfl rfl (by kernel_rfl) (fun _ _ _ h => h) (Or.inl ⟨by rfl, ?_⟩) ?_ ?_
    rotate_left
    · intro w'
      go_simp
      with_reducible rfl
    rotate_left
    · simp only [Act.put, List.setIfInBounds_toArray, List.set_cons_zero, List.set_cons_succ, i64_w, i32_w]
      rfl
    refine pure_ (i := 8) (N := some 10) (v := ?_) (a' := ?_) #[true, true, true, true, true, true, true, true, true] rfl rfl (by kernel_rfl) (fun _ _ _ h => h) (Or.inl ⟨by rfl, ?_⟩) ?_ ?_
    rotate_left
    · intro w'
      go_simp
      with_reducible rfl
    rotate_left
    · simp only [Act.put, List.setIfInBounds_toArray, List.set_cons_zero, List.set_cons_succ, i64_w, i32_w]
      rfl
    refine done_ (by kernel_rfl) ?_
    replace hS := Lib.hid hHeld
    clear hHeld hS2
    go_wp2_with fail
    refine start_ (n := 9) (S := AdS w n ino) (ds := []) #[false, false, false, false, false, false, false, false, false] (by kernel_rfl) rfl rfl hS.out.drew (fun hHeld => ?_)
    refine pure_ (i := 0) (N := some 42) (v := ?_) (a' := ?_) #[true, false, false, false, false, false, false, false, false] rfl rfl (by kernel_rfl) (fun _ _ _ h => h) (Or.inl ⟨by rfl, ?_⟩) ?_ ?_
    rotate_left
    · intro w'
      go_simp
      with_reducible rfl
    rotate_left
    · simp only [Act.put, List.setIfInBounds_toArray, List.set_cons_zero, List.set_cons_succ, i64_w, i32_w]
      rfl
    refine take_ (i := 2) (N := some 44) (v := ?_) (a' := ?_) #[true, false, true, false, false, false, false, false, false] rfl rfl (by kernel_rfl) (fun _ _ _ h => h) (Or.inl ⟨by rfl, ?_⟩) hHeld ?_ ?_
    rotate_left
    · rintro w' hS
      obtain ⟨g0, g1⟩ := hS.cells
      go_simp
      with_reducible rfl
    rotate_left
    · simp only [Act.put, List.setIfInBounds_toArray, List.set_cons_zero, List.set_cons_succ, i64_w, i32_w]
      rfl
    refine one_ (i := 1) (N := some 43) #[true, true, true, false, false, false, false, false, false] rfl rfl (by kernel_rfl) (by decide) (fun K hK => ?_)
    refine goes_ Try.func14 (by kernel_rfl) rfl #[.slice A0 l0.length c0] (by rfl) rfl rfl (by (try simp only [List.map_toArray, List.map_cons, List.map_nil]); first | done | rfl) ?_
    with_reducible refine (HF.out _).mono ?_
    rintro e w9 ⟨rfl, hw⟩
    refine ⟨_, rfl, ?_⟩
    subst hw
    refine hK.out _ _ hHeld (fun hHeld => ?_)
    clear hK K
    refine norm_ (a' := ?_) ?_ ?_
    rotate_left
    · show Act.put _ (some 43) _ = _
      simp only [Act.put, List.setIfInBounds_toArray, List.set_cons_zero, List.set_cons_succ, i64_w, i32_w]
      rfl
    refine one_ (i := 3) (N := some 45) #[true, true, true, true, false, false, false, false, false] rfl rfl (by kernel_rfl) (by decide) (fun K hK => ?_)
    refine goes_ Try.func19 (by kernel_rfl) rfl #[.slice A0 t.length c0, .agg #[.string n, .int .i64 ino]] (by rfl) rfl rfl (by (try simp only [List.map_toArray, List.map_cons, List.map_nil]); first | done | rfl) ?_
    with_reducible refine (D.moatref12_Add.calls K1 A0 c0 t n ino C1 E1 _ (Kd.C_below HR.out hHeld.below) htc k1.out).mono ?_
    rintro e w3 ⟨v2, rfl, hod, hb⟩
    refine ⟨_, rfl, ?_⟩
    have hS2 := hHeld.step hb
    obtain ⟨A2, c2, ev⟩ := Kd.R_slice hod
    subst ev
    replace hod := Lib.hid hod
    replace hoc := Lib.hid (Kd.R_below (Kd.R_drew hoc.out) hb)
    refine hK.out _ _ hS2 (fun hHeld => ?_)
    clear hK K hb
    refine norm_ (a' := ?_) ?_ ?_
    rotate_left
    · show Act.put _ (some 45) _ = _
      simp only [Act.put, List.setIfInBounds_toArray, List.set_cons_zero, List.set_cons_succ, i64_w, i32_w]
      rfl
    refine pure_ (i := 4) (N := some 41) (v := ?_) (a' := ?_) #[true, true, true, true, true, false, false, false, false] rfl rfl (by kernel_rfl) (fun _ _ _ h => h) (Or.inl ⟨by rfl, ?_⟩) ?_ ?_
    rotate_left
    · intro w'
      go_simp
      with_reducible rfl
    rotate_left
    · simp only [Act.put, List.setIfInBounds_toArray, List.set_cons_zero, List.set_cons_succ, i64_w, i32_w]
      rfl
    refine pure_ (i := 5) (N := some 46) (v := ?_) (a' := ?_) #[true, true, true, true, true, true, false, false, false] rfl rfl (by kernel_rfl) (fun _ _ _ h => h) (Or.inl ⟨by rfl, ?_⟩) ?_ ?_
    rotate_left
    · intro w'
      go_simp
      with_reducible rfl
    rotate_left
    · simp only [Act.put, List.setIfInBounds_toArray, List.set_cons_zero, List.set_cons_succ, i64_w, i32_w]
      rfl
    refine pure_ (i := 6) (N := some 47) (v := ?_) (a' := ?_) #[true, true, true, true, true, true, true, false, false] rfl rfl (by kernel_rfl) (fun _ _ _ h => h) (Or.inl ⟨by rfl, ?_⟩) ?_ ?_
    rotate_left
    · intro w'
      go_simp
      with_reducible rfl
    rotate_left
    · simp only [Act.put, List.setIfInBounds_toArray, List.set_cons_zero, List.set_cons_succ, i64_w, i32_w]
      rfl
    refine pure_ (i := 7) (N := some 11) (v := ?_) (a' := ?_) #[true, true, true, true, true, true, true, true, false] rfl rfl (by kernel_rfl) (fun _ _ _ h => h) (Or.inl ⟨by rfl, ?_⟩) ?_ ?_
    rotate_left
    · intro w'
      go_simp
      with_reducible rfl
    rotate_left
    · simp only [Act.put, List.setIfInBounds_toArray, List.set_cons_zero, List.set_cons_succ, i64_w, i32_w]
      rfl
    refine pure_ (i := 8) (N := some 12) (v := ?_) (a' := ?_) #[true, true, true, true, true, true, true, true, true] rfl rfl (by kernel_rfl) (fun _ _ _ h => h) (Or.inl ⟨by rfl, ?_⟩) ?_ ?_
    rotate_left
    · intro w'
      go_simp
      with_reducible rfl
    rotate_left
    · simp only [Act.put, List.setIfInBounds_toArray, List.set_cons_zero, List.set_cons_succ, i64_w, i32_w]
      rfl
    refine done_ (by kernel_rfl) ?_
    replace hS := Lib.hid hHeld
    clear hHeld hS2
    replace hod := Lib.hid (Kd.R_reads' hod.out).2.2
    go_wp2_with fail
    refine (HF.out _).mono ?_
    rintro e w4 ⟨rfl, hw⟩
    subst hw
    go_wp2_with fail
    refine (rm_eq A0 c0 t m G1 H1 _ hm HB.out (Kd.C_below HR.out hS.out.below) htc hG.out).mono ?_
    rintro e w5 ⟨v3, rfl, hog, hb⟩
    obtain ⟨A3, c3, ev⟩ := Kd.R_slice hog
    subst ev
    obtain ⟨hs, hhs⟩ : ∃ hs, hs = w4.heap.size := ⟨_, rfl⟩
    have hlo : Hid (∀ k, (Value.slice A1 C1.length c1).ownBlock = some k → k < hs) := Lib.hid (by rw [hhs]; exact Kd.R_lt hoc.out)
    have hws : Hid (w.heap.size ≤ hs) := Lib.hid (by rw [hhs]; exact hS.out.below.size)
    rw [← hhs] at hog
    clear hhs
    replace hog := Lib.hid hog
    replace hoc := Lib.hid (Kd.R_below hoc.out hb)
    replace hod := Lib.hid (Kd.C_below hod.out hb)
    replace hS := Lib.hid (hS.out.step hb)
    clear hb
    go_wp2_with fail
    refine (HF.out _).mono ?_
    rintro e w6 ⟨rfl, hw⟩
    subst hw
    go_wp2_with fail
    refine (D.moatref12_Remove.calls K2 A0 c0 t m G1 H1 _ (Kd.C_below HR.out hS.out.below) htc k2.out).mono ?_
    rintro e w7 ⟨v4, rfl, hoi, hb⟩
    obtain ⟨A4, c4, ev⟩ := Kd.R_slice hoi
    subst ev
    replace hoi := Lib.hid (Kd.R_reads' hoi).2.2
    replace hog := Lib.hid (Kd.R_below hog.out hb)
    replace hoc := Lib.hid (Kd.R_below hoc.out hb)
    replace hod := Lib.hid (Kd.C_below hod.out hb)
    replace hS := Lib.hid (hS.out.step hb)
    clear hb
    have hcv1 := Kd.C_string (P := Try.prog) (c := c1) Try.underlying24 Try.underlying5 Try.underlying9 (Kd.R_reads' hoc.out).2.2
    have hcv2 := Kd.C_string (P := Try.prog) (c := c2) Try.underlying24 Try.underlying5 Try.underlying9 hod.out
    have hcv3 := Kd.C_string (P := Try.prog) (c := c3) Try.underlying24 Try.underlying5 Try.underlying9 (Kd.R_reads' hog.out).2.2
    have hcv4 := Kd.C_string (P := Try.prog) (c := c4) Try.underlying24 Try.underlying5 Try.underlying9 hoi.out
    go_wp2_with fail
    clear hcv1 hcv2 hcv3 hcv4 hod hoi
    obtain ⟨nc, hnc⟩ : ∃ nc, nc = C1.length := ⟨_, rfl⟩
    obtain ⟨ng, hng⟩ : ∃ ng, ng = G1.length := ⟨_, rfl⟩
    rw [← hnc] at hoc hlo hC1 ⊢
    rw [← hng] at hog hG1 ⊢
    have hB := Lib.hid hS.out.below
    clear hS
    replace hnc := Lib.hid hnc
    replace hng := Lib.hid hng
    go_loopw [86] (fun i wr => ∃ (k : Nat) (xs : List Int), i = .int .i64 k ∧ k ≤ nc ∧ Hid (xs.length = nc) ∧ Hid (Kd.R (Kd.int .u8) 5 wr w.heap.size (fun _ => True) (.slice A1 nc c1) xs) ∧ Hid (Kd.R (Kd.int .u8) 5 wr hs (fun _ => True) (.slice A3 ng c3) G1) ∧ Hid (Below w.heap.size w wr)) (fun i _ => nc - (intOf i).toNat)
    case atStart => exact ⟨0, C1, rfl, Nat.zero_le _, Lib.hid hnc.out.symm, hoc, hog, hB⟩
    case round =>
      obtain ⟨k, xs, rfl, hk, hxl, hoc, hog, hB⟩ := hrel
      by_cases hlt : k < nc
      · have e1 : decide ((k : Int) < (nc : Int)) = true := decide_eq_true (by omega)
        have e2 : 0 ≤ (k : Int) := by omega
        have e3 : (k : Int) < (nc : Int) := by omega
        obtain ⟨g, cap, ev, -⟩ := Kd.R_form hoc.out (by have := hxl.out; omega)
        injection ev with ev1 ev2 ev3
        subst ev1 ev3
        obtain ⟨hcell, hfro⟩ := Kd.R_celln (0 : Int) hoc.out (k : Int) e2 e3
        rw [Int.toNat_natCast] at hcell hfro
        replace hcell : wr.cell? ⟨g, k, none⟩ = some (.int .u8 (rdOf 0 xs (k : Int))) := hcell
        go_wp2_with fail
        have hg1 : g < hs := hlo.out g rfl
        have hg0 : w.heap.size ≤ g := Kd.R_base hoc.out g rfl
        refine ⟨⟨k + 1, xs.set k (bits BinOp.xor IntKind.u8 (rdOf 0 xs (k : Int)) 85), by go_num, by omega, Lib.hid (by rw [List.length_set]; exact hxl.out), Lib.hid (by have h := Kd.R_putn hoc.out (k : Int) (bits BinOp.xor IntKind.u8 (rdOf 0 xs (k : Int)) 85); rw [Int.toNat_natCast] at h; exact h), Lib.hid (Kd.R_mono (Kd.R_far (Kd.R_bound hog.out) (p := ⟨g, k, none⟩) (fun j hj => by have := hj.2.1; intro he; simp only at he; omega) _) (fun _ _ => trivial)), Lib.hid (below_set hB.out hg0)⟩, by simp [intOf]; omega⟩
      · obtain rfl : k = nc := by omega
        have e1 : decide ((k : Int) < (k : Int)) = false := decide_eq_false (by omega)
        clear hoc hlo
        go_wp2_with fail
        go_loopw [98] (fun i wr => ∃ (j : Nat) (ys : List Int), i = .int .i64 j ∧ j ≤ ng ∧ Hid (ys.length = ng) ∧ Hid (Kd.R (Kd.int .u8) 5 wr hs (fun _ => True) (.slice A3 ng c3) ys) ∧ Hid (Below w.heap.size w wr)) (fun i _ => ng - (intOf i).toNat)
        case atStart => exact ⟨0, G1, rfl, Nat.zero_le _, Lib.hid hng.out.symm, hog, hB⟩
        case round =>
          clear hog hB
          obtain ⟨j, ys, rfl, hj, hyl, hog, hB⟩ := hrel
          by_cases hlt : j < ng
          · have f1 : decide ((j : Int) < (ng : Int)) = true := decide_eq_true (by omega)
            have f2 : 0 ≤ (j : Int) := by omega
            have f3 : (j : Int) < (ng : Int) := by omega
            obtain ⟨g, cap, ev, -⟩ := Kd.R_form hog.out (by have := hyl.out; omega)
            injection ev with ev1 ev2 ev3
            subst ev1 ev3
            obtain ⟨hcell, hfro⟩ := Kd.R_celln (0 : Int) hog.out (j : Int) f2 f3
            rw [Int.toNat_natCast] at hcell hfro
            go_wp2_with fail
            have hg0 : hs ≤ g := Kd.R_base hog.out g rfl
            refine ⟨⟨j + 1, ys.set j (bits BinOp.xor IntKind.u8 (rdOf 0 ys (j : Int)) 85), by go_num, by omega, Lib.hid (by rw [List.length_set]; exact hyl.out), Lib.hid (by have h := Kd.R_putn hog.out (j : Int) (bits BinOp.xor IntKind.u8 (rdOf 0 ys (j : Int)) 85); rw [Int.toNat_natCast] at h; exact h), Lib.hid (below_set hB.out (by have := hws.out; omega))⟩, by simp [intOf]; omega⟩
          · obtain rfl : j = ng := by omega
            have f1 : decide ((j : Int) < (j : Int)) = false := decide_eq_false (by omega)
            clear hog
            go_wp2_with fail
            refine (HF.out _).mono ?_
            rintro e w9 ⟨rfl, hw⟩
            subst hw
            have hcv := Kd.C_string (P := Try.prog) (c := c0) Try.underlying24 Try.underlying5 Try.underlying9 (Kd.C_below HR.out hB.out)
            go_wp2_with fail
            go_ret
            exact ⟨by simp, hB.out⟩
end Go.Proofs.Ytinfjmdcmfpdiaa.Lw

/- What entry.Add changes, and what entry.Remove takes back. No walk. -/
namespace Go.Proofs.Ytinfjmdcmfpdiaa.Md
open Go.RowKit Go.Proofs.Ytinfjmdcmfpdiaa.Rt Go.Proofs.Ytinfjmdcmfpdiaa.Pc Go.Proofs.YtinfjmdcmfpdiaaW.PrintWords Go.Proofs.YtinfjmdcmfpdiaaW.PrintLast Go.Proofs.YtinfjmdcmfpdiaaW.PrintMore

theorem freeGo_spec (s : List Sl) : ∀ k, (∃ j, ∃ h : j < s.length, freeGo s k = some (k + j) ∧ s[j] = none) ∨ (freeGo s k = none ∧ ∀ j (h : j < s.length), s[j] ≠ none) := by
  induction s with
  | nil => intro k; right; exact ⟨rfl, fun j h => by simp at h⟩
  | cons o r ih =>
    intro k
    cases o with
    | none => left; exact ⟨0, by simp, rfl, rfl⟩
    | some e =>
      rcases ih (k + 1) with ⟨j, hj, h1, h2⟩ | ⟨h1, h2⟩
      · left; exact ⟨j + 1, by simp; omega, by show freeGo r (k + 1) = _; rw [h1]; congr 1; omega, by simpa using h2⟩
      · right
        refine ⟨h1, fun j h => ?_⟩
        cases j with
        | zero => simp
        | succ j => simpa using h2 j (by simpa using h)
theorem placeGo_split (n : ByteArray) (a : List Sl) (i : Int) (b : List Sl) : ∀ k : Nat, n ∉ names a → placeGo n (a ++ some (n, i) :: b) k = ((k + a.length : Nat) : Int) := by
  induction a with
  | nil => intro k _; show (if n = n then (k : Int) else placeGo n b (k + 1)) = _; rw [if_pos rfl]; rfl
  | cons o r ih =>
    intro k hm
    cases o with
    | none =>
      have : n ∉ names r := by simpa [names] using hm
      show placeGo n (r ++ some (n, i) :: b) (k + 1) = _
      rw [ih (k + 1) this, List.length_cons]; congr 1; omega
    | some e =>
      have e3 : names (some e :: r) = e.1 :: names r := by simp [names]
      rw [e3, List.mem_cons, not_or] at hm
      show (if e.1 = n then (k : Int) else placeGo n (r ++ some (n, i) :: b) (k + 1)) = _
      rw [if_neg (fun h => hm.1 h.symm), ih (k + 1) hm.2, List.length_cons]; congr 1; omega
theorem names_sub_take {s : List Sl} {n : ByteArray} (h : n ∉ names s) (k : Nat) : n ∉ names (s.take k) := fun hm => by
  obtain ⟨i, hi⟩ := names_mem.1 hm
  exact h (names_mem.2 ⟨i, List.mem_of_mem_take hi⟩)
theorem set_split (s : List Sl) (k : Nat) (o : Sl) (hk : k < s.length) : s.set k o = s.take k ++ o :: s.drop (k + 1) := by
  conv => lhs; rw [← List.take_append_drop k s, List.drop_eq_getElem_cons hk]
  rw [List.set_append_right _ _ (by rw [List.length_take]; omega)]
  have : k - (s.take k).length = 0 := by rw [List.length_take]; omega
  rw [this]; rfl
theorem trimGo_append (t u : List Sl) : ∀ m, m ≤ t.length → trimGo (t ++ u) m = trimGo t m := by
  intro m
  induction m with
  | zero => intro _; rfl
  | succ m ih =>
    intro hm
    simp only [trimGo]
    rw [List.getElem?_append_left (by omega), ih (by omega), List.take_append_of_le_length hm]
theorem trim_none (s : List Sl) : trim (s ++ [none]) = trim s := by
  unfold trim
  rw [List.length_append]
  show trimGo (s ++ [none]) (s.length + 1) = _
  simp only [trimGo]
  rw [if_pos (by rw [List.getElem?_append_right (Nat.le_refl _)]; simp), trimGo_append s [none] s.length (Nat.le_refl _)]
theorem trimGo_prefix (t : List Sl) : ∀ m, m ≤ t.length → ∃ j, j ≤ m ∧ trimGo t m = t.take j := by
  intro m
  induction m with
  | zero => intro _; exact ⟨0, Nat.le_refl _, by simp [trimGo]⟩
  | succ m ih =>
    intro hm
    simp only [trimGo]
    split
    · obtain ⟨j, h1, h2⟩ := ih (by omega)
      exact ⟨j, by omega, h2⟩
    · exact ⟨m + 1, Nat.le_refl _, rfl⟩
theorem good_fill {s : List Sl} (hg : Good s) {n : ByteArray} {i : Int} (he : okE (n, i)) (hm : n ∉ names s) {k : Nat} (hk : k < s.length) (hs : s[k] = none) : Good (s.set k (some (n, i))) := by
  refine ⟨hg.ok.set k (fun e h => by injection h with h; rw [← h]; exact he), ?_, by rw [List.length_set]; exact hg.room⟩
  have e : s = s.take k ++ none :: s.drop (k + 1) := by
    conv => lhs; rw [← List.take_append_drop k s, List.drop_eq_getElem_cons hk, hs]
  have hn := hg.apart
  have e1 : names s = names (s.take k) ++ names (s.drop (k + 1)) := by
    conv => lhs; rw [e]
    rw [names_append]; simp [names]
  have e2 : names (s.set k (some (n, i))) = names (s.take k) ++ n :: names (s.drop (k + 1)) := by rw [set_split s k _ hk, names_append]; simp [names]
  rw [e1] at hn hm
  rw [e2]
  rw [List.mem_append, not_or] at hm
  rw [List.nodup_append] at hn ⊢
  refine ⟨hn.1, List.nodup_cons.2 ⟨hm.2, hn.2.1⟩, ?_⟩
  intro a ha b hb
  rcases List.mem_cons.1 hb with rfl | hb
  · rintro rfl; exact hm.1 ha
  · exact hn.2.2 a ha b hb
theorem good_more {s : List Sl} (hg : Good s) {n : ByteArray} {i : Int} (he : okE (n, i)) (hm : n ∉ names s) (hl : s.length < 240) : Good (s ++ [some (n, i)]) := by
  refine ⟨hg.ok.append (.one he), ?_, by rw [List.length_append]; simp; omega⟩
  rw [names_append, names_some, List.nodup_append]
  exact ⟨hg.apart, by simp, by intro a ha b hb; simp at hb; subst hb; rintro rfl; exact hm ha⟩

/-- A directory with an entry more, in slots. -/
theorem add_cases {t : List Int} {n : ByteArray} {i : Int} {C : List Int} (h : addA t n i = (C, 0)) :
    ∃ s : List Sl, t = bytesS s ∧ Good s ∧ okE (n, i) ∧ n ∉ names s ∧
      ((∃ k, ∃ hk : k < s.length, s[k] = none ∧ C = bytesS (s.set k (some (n, i)))) ∨ (s.length < 240 ∧ (∀ j (hj : j < s.length), s[j] ≠ none) ∧ C = bytesS (s ++ [some (n, i)]))) := by
  unfold addA at h
  cases hd : dirO t with
  | none => rw [hd] at h; injection h with h1 h2; cases h2
  | some s =>
    rw [hd] at h
    obtain ⟨hl, hg⟩ := dir_good hd
    simp only at h
    unfold addS at h
    by_cases h0 : (La.layA n i).2 = 0
    · rw [if_pos h0] at h
      obtain ⟨k1, k2, k3, k4⟩ := layA_ok (show La.layA n i = ((La.layA n i).1, 0) from Prod.ext rfl h0)
      rcases place_cases n s with ⟨h1, h2, h3⟩ | ⟨j, i', hj, h1, h2, h3⟩
      · rw [if_neg (by omega)] at h
        refine ⟨s, hl, hg, ⟨k1, k2, k3⟩, h3, ?_⟩
        rcases freeGo_spec s 0 with ⟨j, hj, f1, f2⟩ | ⟨f1, f2⟩
        · left
          rw [f1, Nat.zero_add] at h
          injection h with h4 h5
          exact ⟨j, hj, f2, h4.symm⟩
        · right
          rw [f1] at h
          unfold fillS at h
          by_cases hf : s.length < 240
          · simp only at h; rw [if_pos hf] at h; injection h with h4 h5; exact ⟨hf, f2, h4.symm⟩
          · simp only at h; rw [if_neg hf] at h; injection h with h4 h5; cases h5
      · rw [if_pos (by omega)] at h; injection h with h4 h5; cases h5
    · rw [if_neg h0] at h; injection h with h4 h5; exact absurd h5 h0
theorem remove_good {s : List Sl} (hg : Good s) (n : ByteArray) : removeA (bytesS s) n = removeS s n := by unfold removeA; rw [good_dir hg]

/-- EntryOthers, plainly. -/
theorem others_plain {t : List Int} {n : ByteArray} {i : Int} {C : List Int} (h : addA t n i = (C, 0)) :
    ∃ (m : Nat) (r : List Int), t.length = 16 * m ∧ m ≤ 240 ∧ Bytes C ∧ removeA C n = (r, 0) ∧ r.length ≤ t.length ∧ r = t.take r.length ∧
      ((C.length = t.length ∧ ∃ k, k < m ∧ ∀ j, j < m → (entL C j = entL t j ↔ j ≠ k)) ∨ (C.length = t.length + 16 ∧ ∀ j, j < m → entL C j = entL t j)) := by
  obtain ⟨s, rfl, hg, he, hm, hcase⟩ := add_cases h
  have hlen := bytesS_len hg.ok
  have hr : ∃ r, bytesS (trim s) = r ∧ r.length ≤ (bytesS s).length ∧ r = (bytesS s).take r.length := by
    obtain ⟨j, h1, h2⟩ := trimGo_prefix s s.length (Nat.le_refl _)
    refine ⟨_, rfl, ?_, ?_⟩
    · unfold trim; rw [h2, bytesS_len (hg.ok.take j), List.length_take]; omega
    · unfold trim
      rw [h2, bytesS_len (hg.ok.take j), List.length_take, Nat.min_eq_left h1, bytesS_take hg.ok h1]
  obtain ⟨r, hr1, hr2, hr3⟩ := hr
  rcases hcase with ⟨k, hk, hsk, rfl⟩ | ⟨hlt, hfull, rfl⟩
  · have hg2 := good_fill hg he hm hk hsk
    refine ⟨s.length, r, hlen, hg.room, bytesS_bytes hg2.ok, ?_, hr2, hr3, .inl ⟨by rw [bytesS_len hg2.ok, List.length_set, hlen], k, hk, fun j hj => ?_⟩⟩
    · have hp : placeA (s.set k (some (n, i))) n = (k : Int) := by
        unfold placeA
        rw [set_split s k _ hk, placeGo_split n _ i _ 0 (names_sub_take hm k), List.length_take]
        congr 1; omega
      rw [remove_good hg2]
      unfold removeS
      rw [hp, if_pos (by omega), Int.toNat_natCast, List.set_set]
      have e : s.set k none = s := by rw [← hsk]; exact List.set_getElem_self hk
      rw [e, hr1]
    · rw [entL_bytes hg2.ok j (by rw [List.length_set]; exact hj), entL_bytes hg.ok j hj]
      by_cases hjk : j = k
      · subst hjk
        rw [List.getElem_set_self, hsk]
        exact ⟨fun h => absurd h (layL_ne n i he.size.1), fun h => absurd rfl h⟩
      · rw [List.getElem_set_ne (fun h => hjk h.symm)]
        exact ⟨fun _ => hjk, fun _ => rfl⟩
  · have hg2 := good_more hg he hm hlt
    refine ⟨s.length, r, hlen, hg.room, bytesS_bytes hg2.ok, ?_, hr2, hr3, .inr ⟨by rw [bytesS_len hg2.ok, List.length_append, hlen]; simp; omega, fun j hj => ?_⟩⟩
    · have hp : placeA (s ++ [some (n, i)]) n = (s.length : Int) := by
        unfold placeA
        rw [placeGo_split n s i [] 0 hm]; congr 1; omega
      rw [remove_good hg2]
      unfold removeS
      rw [hp, if_pos (by omega), Int.toNat_natCast, List.set_append_right _ _ (Nat.le_refl _), Nat.sub_self]
      show (bytesS (trim (s ++ [none])), (0 : Int)) = _
      rw [trim_none, hr1]
    · rw [entL_bytes hg2.ok j (by rw [List.length_append]; simp; omega), entL_bytes hg.ok j hj, List.getElem_append_left hj]
end Go.Proofs.Ytinfjmdcmfpdiaa.Md

/- The names of EntryFull: the closure's walk. -/
namespace Go.Proofs.Ytinfjmdcmfpdiaa.Nm
open Go.RowKit Go.Proofs.Ytinfjmdcmfpdiaa.Rt Go.Proofs.Ytinfjmdcmfpdiaa.Md Go.Proofs.Ytinfjmdcmfpdiaa.Al Go.Proofs.Ytinfjmdcmfpdiaa.Pc Go.Proofs.YtinfjmdcmfpdiaaW.PrintWords Go.Proofs.YtinfjmdcmfpdiaaW.PrintLast Go.Proofs.YtinfjmdcmfpdiaaW.PrintMore
set_option linter.unusedVariables false
set_option linter.unusedSimpArgs false

/-- The i-th name. -/
def nmB (i : Nat) : ByteArray := ⟨#[110, 97, 109, 101]⟩ ++ strOfNums [97 + (i : Int) / 16, 97 + (i : Int) % 16]

set_option maxHeartbeats 2000000 in
set_option maxRecDepth 100000 in
theorem name_any (i : Nat) (hi : i < 240) (w : World) : Calls Try.prog 22 #[.int .i64 (i : Int)] w fun e w' => e = .returned (.string (nmB i)) ∧ Below w.heap.size w w' := by
  have b1 : 0 ≤ (i : Int) := by omega
  have b2 : (i : Int) ≤ 239 := by omega
  have b3 : (i : Int) / 16 ≤ 14 := by omega
  have b4 : 0 ≤ (i : Int) / 16 := by omega
  have b5 : (i : Int) % 16 ≤ 15 := by omega
  have b6 : 0 ≤ (i : Int) % 16 := by omega
  obtain ⟨z, hz⟩ : ∃ z, z = strOfNums [97 + (i : Int) / 16, 97 + (i : Int) % 16] := ⟨_, rfl⟩
  have hcv : (convert 24 9 (.slice (some ⟨w.heap.size, 0, none⟩) 2 2)).run Try.prog (w.alloc (.cells #[.int .u8 (97 + (i : Int) / 16), .int .u8 (97 + (i : Int) % 16)] 5)) = .ok (.string z) (w.alloc (.cells #[.int .u8 (97 + (i : Int) / 16), .int .u8 (97 + (i : Int) % 16)] 5)) := by
    rw [hz]
    exact own_string (P := Try.prog) Try.underlying24 Try.underlying5 Try.underlying9 (own_lit w w.heap.size 5 .u8 [97 + (i : Int) / 16, 97 + (i : Int) % 16] (Nat.le_refl _) (by simp))
  have hN : Hid (nmB i = ⟨#[110, 97, 109, 101]⟩ ++ z) := Lib.hid (by rw [hz]; rfl)
  have z1 : 4 + z.size ≤ 9223372036854775807 := by rw [hz, strOfNums_size]; simp
  have z2 : (9223372036854775807 < 4 + z.size) = False := eq_false (Nat.not_lt.2 z1)
  have z3 : decide (4 + z.size ≤ 9223372036854775807) = true := decide_eq_true z1
  clear hz
  go_enter Try.func22, Try.ntmps22
  go_wp2_with fail
  go_ret
  rw [hN.out]
  exact ⟨rfl, (Below.refl _ _).alloc (Nat.le_refl _) _⟩

theorem nm_data (i : Nat) : (nmB i).data.toList = [110, 97, 109, 101, UInt8.ofNat (97 + (i : Int) / 16).toNat, UInt8.ofNat (97 + (i : Int) % 16).toNat] := by
  unfold nmB
  rw [ByteArray.data_append, Array.toList_append]
  rfl
theorem nm_size (i : Nat) : (nmB i).size = 6 := by rw [Lib.size_eq, nm_data]; rfl
theorem nm_right : ∀ i : Fin 240, rightB (nmB i.1).data.toList = true := by decide +kernel
theorem nm_inj {i j : Nat} (hi : i < 240) (hj : j < 240) (h : nmB i = nmB j) : i = j := by
  have h1 := congrArg (fun b : ByteArray => b.data.toList) h
  simp only [nm_data, List.cons.injEq, and_true, true_and] at h1
  obtain ⟨h2, h3⟩ := h1
  have h4 := congrArg UInt8.toNat h2
  have h5 := congrArg UInt8.toNat h3
  rw [UInt8.toNat_ofNat', UInt8.toNat_ofNat'] at h4 h5
  omega
theorem nm_ok (i : Nat) (hi : i < 240) : okE (nmB i, (i : Int) % 64) := ⟨nm_right ⟨i, hi⟩, by simp only; omega, by simp only; omega⟩
/-- The directory of the first i names. -/
def rows : Nat → List Sl
  | 0 => []
  | i + 1 => rows i ++ [some (nmB i, (i : Int) % 64)]
theorem rows_len : ∀ i, (rows i).length = i
  | 0 => rfl
  | i + 1 => by simp [rows, rows_len i]
theorem rows_names (i : Nat) : ∀ n, n ∈ names (rows i) → ∃ j, j < i ∧ n = nmB j := by
  induction i with
  | zero => intro n h; cases h
  | succ i ih =>
    intro n h
    rw [rows, names_append, List.mem_append] at h
    rcases h with h | h
    · obtain ⟨j, hj, e⟩ := ih n h; exact ⟨j, by omega, e⟩
    · simp [names] at h; exact ⟨i, by omega, h⟩
theorem rows_fresh {i : Nat} (hi : i < 240) : nmB i ∉ names (rows i) := fun h => by
  obtain ⟨j, hj, e⟩ := rows_names i _ h
  have := nm_inj hi (by omega) e
  omega
theorem rows_good : ∀ i, i ≤ 240 → Md.Good (rows i)
  | 0, _ => ⟨.nil, by simp [rows, names], by simp [rows]⟩
  | i + 1, h => good_more (rows_good i (by omega)) (nm_ok i (by omega)) (rows_fresh (by omega)) (by rw [rows_len]; omega)
theorem rows_some (i : Nat) : ∀ j (hj : j < (rows i).length), (rows i)[j] ≠ none := by
  induction i with
  | zero => intro j hj; simp [rows] at hj
  | succ i ih =>
    intro j hj
    have hl := rows_len i
    simp only [rows]
    by_cases h : j < (rows i).length
    · rw [List.getElem_append_left h]; exact ih j h
    · rw [List.getElem_append_right (by omega)]; simp
theorem rows_full (i : Nat) : freeGo (rows i) 0 = none := by
  rcases freeGo_spec (rows i) 0 with ⟨j, hj, _, h⟩ | ⟨h, _⟩
  · exact absurd h (rows_some i j hj)
  · exact h
theorem rows_at (i j : Nat) (h : j < i) : (rows i)[j]'(by rw [rows_len]; exact h) = some (nmB j, (j : Int) % 64) := by
  induction i with
  | zero => omega
  | succ i ih =>
    simp only [rows]
    by_cases hj : j < i
    · rw [List.getElem_append_left (by rw [rows_len]; exact hj)]; exact ih hj
    · obtain rfl : j = i := by omega
      rw [List.getElem_append_right (by rw [rows_len]; omega)]
      simp [rows_len]
theorem add_good {s : List Sl} (hg : Md.Good s) (n : ByteArray) (i : Int) : addA (bytesS s) n i = addS s n i := by unfold addA; rw [good_dir hg]
theorem addS_free {s : List Sl} {n : ByteArray} {i : Int} (he : okE (n, i)) (hn : n ∉ names s) : addS s n i = fillS s (n, i) (freeGo s 0) := by
  unfold addS
  rw [layA_right he.1 he.2.1 he.2.2, if_pos rfl]
  rcases place_cases n s with ⟨h1, h2, h3⟩ | ⟨j, i', hj, h1, h2, h3⟩
  · rw [if_neg (by omega)]
  · exact absurd (names_mem.2 ⟨i', by rw [← h2]; exact List.getElem_mem hj⟩) hn
theorem add_row (i : Nat) (hi : i < 240) : addA (bytesS (rows i)) (nmB i) ((i : Int) % 64) = (bytesS (rows (i + 1)), 0) := by
  rw [add_good (rows_good i (by omega)), addS_free (nm_ok i hi) (rows_fresh hi), rows_full]
  unfold fillS
  simp only
  rw [if_pos (by rw [rows_len]; exact hi)]
  rfl
/-- One name more. -/
def bMore : ByteArray := ⟨#[109, 111, 114, 101]⟩
theorem more_ok (i : Int) (h0 : 0 ≤ i) (h1 : i < 64) : okE (bMore, i) := ⟨by rfl, h0, h1⟩
theorem more_ne (j : Nat) : bMore ≠ nmB j := fun h => by
  have := congrArg ByteArray.size h
  rw [nm_size] at this
  cases this
theorem more_fresh (i : Nat) : bMore ∉ names (rows i) := fun h => by
  obtain ⟨j, _, e⟩ := rows_names i _ h
  exact more_ne j e
theorem add_full : addA (bytesS (rows 240)) bMore 0 = ([], 5) := by
  rw [add_good (rows_good 240 (by omega)), addS_free (more_ok 0 (by omega) (by omega)) (more_fresh 240), rows_full]
  unfold fillS
  simp only
  rw [if_neg (by rw [rows_len]; omega)]
theorem place_in {s : List Sl} (hg : Md.Good s) {k : Nat} {n : ByteArray} {i : Int} (hk : k < s.length) (hs : s[k] = some (n, i)) : placeA s n = (k : Int) := by
  have e0 : s = s.take k ++ some (n, i) :: s.drop (k + 1) := by rw [← hs, ← List.drop_eq_getElem_cons hk, List.take_append_drop]
  have hn : n ∉ names (s.take k) := fun h => by
    have hg := hg.apart
    have e : names s = names (s.take k) ++ n :: names (s.drop (k + 1)) := by
      conv => lhs; rw [e0]
      rw [names_append]; simp [names]
    rw [e, List.nodup_append] at hg
    exact hg.2.2 _ h _ (by simp) rfl
  unfold placeA
  conv => lhs; rw [e0]
  rw [placeGo_split _ _ _ _ 0 hn, List.length_take]
  congr 1; omega
theorem place_at (k : Nat) (hk : k < 240) : placeA (rows 240) (nmB k) = (k : Int) :=
  place_in (rows_good 240 (by omega)) (by rw [rows_len]; exact hk) (rows_at 240 k hk)
theorem trim_full {t : List Sl} {m : Nat} {e : ByteArray × Int} (hl : t.length = m + 1) (h : t[m]? = some (some e)) : trim t = t := by
  unfold trim
  rw [hl]
  simp only [trimGo]
  rw [if_neg (by rw [h]; simp), List.take_of_length_le (by omega)]
theorem trim_set {R : List Sl} {e : ByteArray × Int} (hl : R.length = 240) (h : R[239] = some e) (k : Nat) (hk : k < 239) : trim (R.set k none) = R.set k none := by
  refine trim_full (m := 239) (e := e) (by rw [List.length_set, hl]) ?_
  rw [List.getElem?_set_ne (by omega), List.getElem?_eq_getElem (by omega), h]
theorem remove_at (k : Nat) (hk : k < 239) : removeA (bytesS (rows 240)) (nmB k) = (bytesS ((rows 240).set k none), 0) := by
  rw [remove_good (rows_good 240 (by omega))]
  unfold removeS
  rw [place_at k (by omega), if_pos (by omega), Int.toNat_natCast, trim_set (rows_len 240) (rows_at 240 239 (by omega)) k hk]
theorem names_less {s : List Sl} {n : ByteArray} (k : Nat) (h : n ∉ names s) : n ∉ names (s.set k none) := fun hm => by
  obtain ⟨i, hi⟩ := names_mem.1 hm
  rcases List.mem_or_eq_of_mem_set hi with h2 | h2
  · exact h (names_mem.2 ⟨i, h2⟩)
  · cases h2
theorem good_less {s : List Sl} (hg : Md.Good s) (k : Nat) (hk : k < s.length) : Md.Good (s.set k none) := by
  refine ⟨hg.ok.set k (fun e h => by cases h), ?_, by rw [List.length_set]; exact hg.room⟩
  have hn := hg.apart
  have e : s = s.take k ++ s[k] :: s.drop (k + 1) := by rw [← List.drop_eq_getElem_cons hk, List.take_append_drop]
  have e2 : names (s.set k none) = names (s.take k) ++ names (s.drop (k + 1)) := by rw [set_split s k _ hk, names_append]; simp [names]
  have e1 : names s = names (s.take k) ++ names (s[k] :: s.drop (k + 1)) := by
    conv => lhs; rw [e]
    rw [names_append]
  rw [e1] at hn
  rw [e2]
  cases hs : s[k] with
  | none => rw [hs] at hn; simpa [names] using hn
  | some p =>
    rw [hs] at hn
    have e3 : names (some p :: s.drop (k + 1)) = p.1 :: names (s.drop (k + 1)) := by simp [names]
    rw [e3, List.nodup_append, List.nodup_cons] at hn
    rw [List.nodup_append]
    exact ⟨hn.1, hn.2.1.2, fun a ha b hb => hn.2.2 a ha b (List.mem_cons_of_mem _ hb)⟩
theorem freeGo_at (a : List Sl) (b : List Sl) (h : ∀ o ∈ a, o ≠ none) : ∀ k, freeGo (a ++ none :: b) k = some (k + a.length) := by
  induction a with
  | nil => intro k; rfl
  | cons o r ih =>
    intro k
    cases o with
    | none => exact absurd rfl (h none (by simp))
    | some e =>
      show freeGo (r ++ none :: b) (k + 1) = _
      rw [ih (fun o ho => h o (List.mem_cons_of_mem _ ho)), List.length_cons]; congr 1; omega
theorem add_again (k : Nat) (hk : k < 239) : addA (bytesS ((rows 240).set k none)) bMore 7 = (bytesS ((rows 240).set k (some (bMore, 7))), 0) := by
  have hl : k < (rows 240).length := by rw [rows_len]; omega
  rw [add_good (good_less (rows_good 240 (by omega)) k hl), addS_free (more_ok 7 (by omega) (by omega)) (names_less k (more_fresh 240))]
  have hf : freeGo ((rows 240).set k none) 0 = some k := by
    rw [set_split _ k _ hl, freeGo_at _ _ _ 0]
    · rw [List.length_take, rows_len]; congr 1; omega
    · intro o ho
      obtain ⟨j, hj, e⟩ := List.mem_take_iff_getElem.1 ho
      rw [← e]
      exact rows_some 240 j (by omega)
  rw [hf]
  show (bytesS (((rows 240).set k none).set k (some (bMore, 7))), (0 : Int)) = _
  rw [List.set_set]
theorem full_len {s : List Sl} (hs : AllOk s) (h : s.length = 240) : (bytesS s).length = 3840 := by rw [bytesS_len hs, h]
theorem full_take {s : List Sl} (hs : AllOk s) (k : Nat) (hk : k < s.length) (o : Sl) (ho : ∀ e, o = some e → okE e) : (bytesS (s.set k o)).take (16 * k) = (bytesS s).take (16 * k) := by
  rw [bytesS_take (hs.set k ho) (by rw [List.length_set]; omega), bytesS_take hs (by omega), List.take_set_of_le (Nat.le_refl _)]
theorem full_drop {s : List Sl} (hs : AllOk s) (k : Nat) (hk : k < s.length) (o : Sl) (ho : ∀ e, o = some e → okE e) : (bytesS (s.set k o)).drop (16 * (k + 1)) = (bytesS s).drop (16 * (k + 1)) := by
  have h2 := hs.set k ho
  have e1 : ∀ t : List Sl, AllOk t → k < t.length → (bytesS t).drop (16 * (k + 1)) = bytesS (t.drop (k + 1)) := by
    intro t ht hl
    have e : bytesS t = bytesS (t.take (k + 1)) ++ bytesS (t.drop (k + 1)) := by rw [← bytesS_append, List.take_append_drop]
    have hlen : (bytesS (t.take (k + 1))).length = 16 * (k + 1) := by rw [bytesS_len (ht.take _), List.length_take]; omega
    rw [e, List.drop_append_of_le_length (by omega), List.drop_of_length_le (by omega), List.nil_append]
  rw [e1 _ h2 (by rw [List.length_set]; exact hk), e1 s hs hk, List.drop_set_of_lt (by omega)]
end Go.Proofs.Ytinfjmdcmfpdiaa.Nm

/- EntryFull: its walk. -/
namespace Go.Proofs.Ytinfjmdcmfpdiaa.Lw
open Go.RowKit Go.Proofs.Ytinfjmdcmfpdiaa.Rt Go.Proofs.Ytinfjmdcmfpdiaa.Md Go.Proofs.Ytinfjmdcmfpdiaa.Al Go.Proofs.Ytinfjmdcmfpdiaa.Pc Go.Proofs.Ytinfjmdcmfpdiaa.Fn Go.Proofs.Ytinfjmdcmfpdiaa.Ad Go.Proofs.Ytinfjmdcmfpdiaa.Rm Go.Proofs.Ytinfjmdcmfpdiaa.Nm Go.Proofs.YtinfjmdcmfpdiaaW.PrintWords Go.Proofs.YtinfjmdcmfpdiaaW.PrintLast Go.Proofs.YtinfjmdcmfpdiaaW.PrintMore
set_option linter.unusedVariables false
set_option linter.unusedSimpArgs false

/-- Four cuts that are read as texts: the beginnings, and the ends, of two rows. -/
structure FuS (w : World) (A1 : Option Addr) (c1 : Nat) (A2 : Option Addr) (c2 : Nat) (a : Nat) (X : List Int) (g1 g2 b : Nat) (Z : List Int) (W : World) : Prop where
  r1 : Kd.C (Kd.int .u8) W A1 a X
  r2 : Kd.C (Kd.int .u8) W A2 a X
  r3 : Kd.C (Kd.int .u8) W (some ⟨g1, b, none⟩) (3840 - b) Z
  r4 : Kd.C (Kd.int .u8) W (some ⟨g2, b, none⟩) (3840 - b) Z
  below : Below w.heap.size w W
section
variable {w W : World} {A1 A2 : Option Addr} {c1 c2 a g1 g2 b : Nat} {X Z : List Int}
theorem FuS.drew (h : FuS w A1 c1 A2 c2 a X g1 g2 b Z W) : FuS w A1 c1 A2 c2 a X g1 g2 b Z W.drew := ⟨Kd.C_drew h.r1, Kd.C_drew h.r2, Kd.C_drew h.r3, Kd.C_drew h.r4, below_drew1 h.below⟩
theorem FuS.cv1 (h : FuS w A1 c1 A2 c2 a X g1 g2 b Z W) : (convert 24 9 (.slice A1 a c1)).run Try.prog W = .ok (.string (strOfNums X)) W := Kd.C_string Try.underlying24 Try.underlying5 Try.underlying9 h.r1
theorem FuS.cv2 (h : FuS w A1 c1 A2 c2 a X g1 g2 b Z W) : (convert 24 9 (.slice A2 a c2)).run Try.prog W = .ok (.string (strOfNums X)) W := Kd.C_string Try.underlying24 Try.underlying5 Try.underlying9 h.r2
theorem FuS.cv3 (h : FuS w A1 c1 A2 c2 a X g1 g2 b Z W) : (convert 24 9 (.slice (some ⟨g1, b, none⟩) (3840 - b) (c1 - b))).run Try.prog W = .ok (.string (strOfNums Z)) W := Kd.C_string Try.underlying24 Try.underlying5 Try.underlying9 h.r3
theorem FuS.cv4 (h : FuS w A1 c1 A2 c2 a X g1 g2 b Z W) : (convert 24 9 (.slice (some ⟨g2, b, none⟩) (3840 - b) (c2 - b))).run Try.prog W = .ok (.string (strOfNums Z)) W := Kd.C_string Try.underlying24 Try.underlying5 Try.underlying9 h.r4
end
/-- The beginning and the end of a row. -/
theorem C_ends {W : World} {g c a b : Nat} {L : List Int} (h : Kd.C (Kd.int .u8) W (some ⟨g, 0, none⟩) L.length L) (hL : L.length = 3840) (hc : 3840 ≤ c) (ha : a ≤ 3840) (hb : b < 3840) :
    Kd.C (Kd.int .u8) W (some ⟨g, 0, none⟩) a (L.take a) ∧ Kd.C (Kd.int .u8) W (some ⟨g, b, none⟩) (3840 - b) (L.drop b) := by
  have h1 := Kd.C_take h (m := a) (by omega)
  have h2 := Kd.C_drop h (m := b) (c := c) (by omega) (by omega)
  rw [List.length_take, Nat.min_eq_left (by omega)] at h1
  rw [if_neg (by omega), List.length_drop, hL] at h2
  refine ⟨h1, ?_⟩
  have e : (some (⟨g, 0, none⟩ : Addr)).map (fun x => x.add (b * (Kd.int .u8).sz)) = some ⟨g, b, none⟩ := by
    show some ((⟨g, 0, none⟩ : Addr).add (b * 1)) = _
    rw [Nat.mul_one, add_plain]
  rw [e] at h2
  exact h2

set_option maxHeartbeats 16000000 in
set_option maxRecDepth 100000 in
theorem full_any (q : Int) (hq0 : 0 ≤ q) (hq1 : q ≤ 255) (w : World) :
    Calls Try.prog 6 #[.int .u8 q] w fun e w' => e = .returned (.bool true) ∧ Below w.heap.size w w' := by
  obtain ⟨k, hk⟩ : ∃ k : Nat, q % 239 = (k : Int) := ⟨(q % 239).toNat, by omega⟩
  have hk2 : k < 239 := by omega
  obtain ⟨B, hBd⟩ : ∃ B, B = bytesS (rows 240) := ⟨_, rfl⟩
  obtain ⟨L13, h13⟩ : ∃ L, L = bytesS ((rows 240).set k none) := ⟨_, rfl⟩
  obtain ⟨L15, h15⟩ : ∃ L, L = bytesS ((rows 240).set k (some (bMore, 7))) := ⟨_, rfl⟩
  have hgood := rows_good 240 (by omega)
  have hlr := rows_len 240
  have hA1 : Hid (addA B ⟨#[109, 111, 114, 101]⟩ 0 = ([], 5)) := Lib.hid (by rw [hBd]; exact add_full)
  have hA2 : Hid (removeA B (nmB k) = (L13, 0)) := Lib.hid (by rw [hBd, h13]; exact remove_at k hk2)
  have hA3 : Hid (addA L13 ⟨#[109, 111, 114, 101]⟩ 7 = (L15, 0)) := Lib.hid (by rw [h13, h15]; exact add_again k hk2)
  have hBb : Hid (Bytes B) := Lib.hid (by rw [hBd]; exact bytesS_bytes hgood.ok)
  have ok13 := hgood.ok.set k (o := none) (fun e h => by cases h)
  have ok15 := hgood.ok.set k (o := some (bMore, 7)) (fun e h => by injection h with h; rw [← h]; exact more_ok 7 (by omega) (by omega))
  have hb13 : Hid (Bytes L13) := Lib.hid (by rw [h13]; exact bytesS_bytes ok13)
  have lB : Hid (B.length = 3840) := Lib.hid (by rw [hBd]; exact full_len hgood.ok hlr)
  have l13 : Hid (L13.length = 3840) := Lib.hid (by rw [h13]; exact full_len ok13 (by rw [List.length_set, hlr]))
  have l15 : Hid (L15.length = 3840) := Lib.hid (by rw [h15]; exact full_len ok15 (by rw [List.length_set, hlr]))
  obtain ⟨a, ha⟩ : ∃ a : Nat, a = 16 * k := ⟨_, rfl⟩
  obtain ⟨k1, hk1⟩ : ∃ k1 : Nat, k1 = k + 1 := ⟨_, rfl⟩
  obtain ⟨b, hb⟩ : ∃ b : Nat, b = 16 * (k + 1) := ⟨_, rfl⟩
  obtain ⟨X, hX⟩ : ∃ X, X = B.take a := ⟨_, rfl⟩
  obtain ⟨Z, hZ⟩ : ∃ Z, Z = B.drop b := ⟨_, rfl⟩
  have hX2 : Hid (L15.take a = X) := Lib.hid (by rw [hX, h15, hBd, ha]; exact full_take hgood.ok k (by rw [hlr]; omega) _ (fun e h => by injection h with h; rw [← h]; exact more_ok 7 (by omega) (by omega)))
  have hZ2 : Hid (L15.drop b = Z) := Lib.hid (by rw [hZ, h15, hBd, hb]; exact full_drop hgood.ok k (by rw [hlr]; omega) _ (fun e h => by injection h with h; rw [← h]; exact more_ok 7 (by omega) (by omega)))
  have ha2 : a ≤ 3824 := by omega
  have hb2 : b ≤ 3824 := by omega
  have m1 : wrap64 ((k : Int) * 16) = (a : Int) := by unfold wrap64; omega
  have m2 : wrap64 ((k : Int) + 1) = (k1 : Int) := by unfold wrap64; omega
  have m3 : wrap64 ((k1 : Int) * 16) = (b : Int) := by unfold wrap64; omega
  have m1 := Lib.hid m1
  have m2 := Lib.hid m2
  have m3 := Lib.hid m3
  replace hX := Lib.hid hX
  replace hZ := Lib.hid hZ
  replace hBd := Lib.hid hBd
  clear h13 h15 hgood ok13 ok15 hlr ha hk1 hb
  have fB : ((B.length : Int) != 3840) = false := by rw [bne_eq_false_iff_eq]; have := lB.out; omega
  replace fB := Lib.hid fB
  go_enter Try.func6, Try.ntmps6
  go_wp2_with fail
  refine (P.moatlaw12_shown.calls true _ rfl).mono ?_
  rintro e w1 ⟨rfl, hb⟩
  have hB := Lib.hid hb
  clear hb
  go_wp2_with fail
  go_loopw [4, 19] (fun v i wr => ∃ j : Nat, i = .int .i64 (j : Int) ∧ j ≤ 240 ∧ Hid (Kd.R (Kd.int .u8) 5 wr w.heap.size (fun _ => True) v (bytesS (rows j))) ∧ Hid (Below w.heap.size w wr)) (fun _ i _ => 240 - (intOf i).toNat)
  case atStart => exact ⟨0, rfl, Nat.zero_le _, Lib.hid (Kd.R_nil _ _ _ _ _), hB⟩
  case round =>
    clear hB
    obtain ⟨j, rfl, hj, hO, hB⟩ := hrel
    by_cases hlt : j < 240
    · have c1 : decide ((j : Int) < 240) = true := decide_eq_true (by omega)
      obtain ⟨L, hL⟩ : ∃ L, L = bytesS (rows j) := ⟨_, rfl⟩
      obtain ⟨L', hL'⟩ : ∃ L, L = bytesS (rows (j + 1)) := ⟨_, rfl⟩
      have hadd : Hid (addA L (nmB j) ((j : Int) % 64) = (L', 0)) := Lib.hid (by rw [hL, hL']; exact add_row j hlt)
      have hLb : Hid (Bytes L) := Lib.hid (by rw [hL]; exact bytesS_bytes (rows_good j (by omega)).ok)
      rw [← hL] at hO
      replace hL := Lib.hid hL
      replace hL' := Lib.hid hL'
      obtain ⟨A, c, ev, hc, hC⟩ := Kd.R_reads hO.out
      subst ev
      replace hC := Lib.hid hC
      have d1 : 0 ≤ (j : Int) := by omega
      clear hO
      go_wp2_with fail
      refine (name_any j hlt _).mono ?_
      rintro e w2 ⟨rfl, hb⟩
      replace hC := Lib.hid (Kd.C_below hC.out hb)
      replace hB := Lib.hid (below_step hB.out hb)
      clear hb
      go_wp2_with fail
      refine (add_eq A c L (nmB j) ((j : Int) % 64) L' 0 _ (by rw [nm_size]; unfold maxLen; omega) hLb.out hC.out hc hadd.out).mono ?_
      rintro e w3 ⟨v3, rfl, ho3, hb⟩
      replace ho3 := Lib.hid (Kd.R_lower ho3 hB.out.size)
      replace hB := Lib.hid (below_step hB.out hb)
      clear hb hC
      go_wp2_with fail
      exact ⟨⟨j + 1, by go_num, by omega, by rw [← hL'.out]; exact ho3, hB⟩, by simp [intOf]; omega⟩
    · obtain rfl : j = 240 := by omega
      have c1 : decide (((240 : Nat) : Int) < 240) = false := by decide
      rw [← hBd.out] at hO
      obtain ⟨gB, c, ev, -⟩ := Kd.R_form hO.out (by have := lB.out; omega)
      subst ev
      obtain ⟨-, hc, hC⟩ := Kd.R_reads' hO.out
      replace hC := Lib.hid hC
      clear hO
      have fB := fB.out
      go_wp2_with fail
      refine (add_eq (some ⟨gB, 0, none⟩) c B ⟨#[109, 111, 114, 101]⟩ 0 [] 5 _ (by decide) hBb.out hC.out hc hA1.out).mono ?_
      rintro e w2 ⟨v2, rfl, -, hb⟩
      replace hC := Lib.hid (Kd.C_below hC.out hb)
      replace hB := Lib.hid (below_step hB.out hb)
      clear hb
      go_wp2_with fail
      refine (name_any k (by omega) _).mono ?_
      rintro e w3 ⟨rfl, hb⟩
      replace hC := Lib.hid (Kd.C_below hC.out hb)
      replace hB := Lib.hid (below_step hB.out hb)
      clear hb
      go_wp2_with fail
      refine (rm_eq (some ⟨gB, 0, none⟩) c B (nmB k) L13 0 _ (by rw [nm_size]; unfold maxLen; omega) hBb.out hC.out hc hA2.out).mono ?_
      rintro e w4 ⟨v4, rfl, ho4, hb⟩
      obtain ⟨A13, c13, ev, hc13, hC13⟩ := Kd.R_reads ho4
      subst ev
      replace hC13 := Lib.hid hC13
      replace hC := Lib.hid (Kd.C_below hC.out hb)
      replace hB := Lib.hid (below_step hB.out hb)
      clear hb ho4
      go_wp2_with fail
      refine (add_eq A13 c13 L13 ⟨#[109, 111, 114, 101]⟩ 7 L15 0 _ (by decide) hb13.out hC13.out hc13 hA3.out).mono ?_
      rintro e w5 ⟨v5, rfl, ho5, hb⟩
      obtain ⟨g15, c15, ev, -⟩ := Kd.R_form ho5 (by have := l15.out; omega)
      subst ev
      obtain ⟨-, hc15, hC15⟩ := Kd.R_reads' ho5
      have hS : Hid (FuS w (some ⟨g15, 0, none⟩) c15 (some ⟨gB, 0, none⟩) c a X g15 gB b Z w5) := Lib.hid (by
        obtain ⟨x1, x2⟩ := C_ends (c := c15) (a := a) (b := b) hC15 l15.out (by have := l15.out; omega) (by omega) (by omega)
        obtain ⟨x3, x4⟩ := C_ends (c := c) (a := a) (b := b) (Kd.C_below hC.out hb) lB.out (by have := lB.out; omega) (by omega) (by omega)
        rw [hX2.out] at x1
        rw [hZ2.out] at x2
        rw [← hX.out] at x3
        rw [← hZ.out] at x4
        exact ⟨x1, x3, x2, x4, below_step hB.out hb⟩)
      have hc2 : 3840 ≤ c := by have := lB.out; omega
      have hc3 : 3840 ≤ c15 := by have := l15.out; omega
      clear hb ho5 hC15 hC hB hC13 fB
      rw [lB.out, l13.out, l15.out]
      have q1 : ((strOfNums X).toList == (strOfNums X).toList) = true := beq_self_eq_true _
      have q2 : ((strOfNums Z).toList == (strOfNums Z).toList) = true := beq_self_eq_true _
      have n1 : (a : Int) ≤ (c : Int) := by omega
      have n2 : (a : Int) ≤ (c15 : Int) := by omega
      have n3 : (b : Int) ≤ 3840 := by omega
      have n4 : a ≤ c := by omega
      have n5 : a ≤ c15 := by omega
      have n6 : b ≤ 3840 := by omega
      have n7 : ¬ (c = b) := by omega
      have n8 : ¬ (c15 = b) := by omega
      go_wp2_with fail
      have m1 := m1.out
      have m2 := m2.out
      have m3 := m3.out
      clear hk
      refine start_ (n := 52) (S := FuS w (some ⟨g15, 0, none⟩) c15 (some ⟨gB, 0, none⟩) c a X g15 gB b Z) (ds := []) #[false, false, false, false, false, false, false, false, false, false, false, false, false, false, false, false, false, false, false, false, false, false, false, false, false, false, false, false, false, false, false, false, false, false, false, false, false, false, false, false, false, false, false, false, false, false, false, false, false, false, false, false] (by kernel_rfl) rfl rfl (hS.out.drew) (fun hHeld => ?_)
      refine pure_ (i := 0) (N := some 69) (v := ?_) (a' := ?_) #[true, false, false, false, false, false, false, false, false, false, false, false, false, false, false, false, false, false, false, false, false, false, false, false, false, false, false, false, false, false, false, false, false, false, false, false, false, false, false, false, false, false, false, false, false, false, false, false, false, false, false, false] rfl rfl (by kernel_rfl) (fun _ _ _ h => h) (Or.inl ⟨by rfl, ?_⟩) ?_ ?_
      rotate_left
      · intro w'
        go_simp
        with_reducible rfl
      rotate_left
      · simp only [Act.put, List.setIfInBounds_toArray, List.set_cons_zero, List.set_cons_succ, i64_w, i32_w]
        rfl
      refine pure_ (i := 1) (N := some 70) (v := ?_) (a' := ?_) #[true, true, false, false, false, false, false, false, false, false, false, false, false, false, false, false, false, false, false, false, false, false, false, false, false, false, false, false, false, false, false, false, false, false, false, false, false, false, false, false, false, false, false, false, false, false, false, false, false, false, false, false] rfl rfl (by kernel_rfl) (fun _ _ _ h => h) (Or.inl ⟨by rfl, ?_⟩) ?_ ?_
      rotate_left
      · intro w'
        go_simp
        with_reducible rfl
      rotate_left
      · simp only [Act.put, List.setIfInBounds_toArray, List.set_cons_zero, List.set_cons_succ, i64_w, i32_w]
        rfl
      refine pure_ (i := 2) (N := some 71) (v := ?_) (a' := ?_) #[true, true, true, false, false, false, false, false, false, false, false, false, false, false, false, false, false, false, false, false, false, false, false, false, false, false, false, false, false, false, false, false, false, false, false, false, false, false, false, false, false, false, false, false, false, false, false, false, false, false, false, false] rfl rfl (by kernel_rfl) (fun _ _ _ h => h) (Or.inl ⟨by rfl, ?_⟩) ?_ ?_
      rotate_left
      · intro w'
        go_simp
        with_reducible rfl
      rotate_left
      · simp only [Act.put, List.setIfInBounds_toArray, List.set_cons_zero, List.set_cons_succ, i64_w, i32_w]
        rfl
      refine pure_ (i := 3) (N := some 72) (v := ?_) (a' := ?_) #[true, true, true, true, false, false, false, false, false, false, false, false, false, false, false, false, false, false, false, false, false, false, false, false, false, false, false, false, false, false, false, false, false, false, false, false, false, false, false, false, false, false, false, false, false, false, false, false, false, false, false, false] rfl rfl (by kernel_rfl) (fun _ _ _ h => h) (Or.inl ⟨by rfl, ?_⟩) ?_ ?_
      rotate_left
      · intro w'
        go_simp
        with_reducible rfl
      rotate_left
      · simp only [Act.put, List.setIfInBounds_toArray, List.set_cons_zero, List.set_cons_succ, i64_w, i32_w]
        rfl
      refine pure_ (i := 4) (N := some 73) (v := ?_) (a' := ?_) #[true, true, true, true, true, false, false, false, false, false, false, false, false, false, false, false, false, false, false, false, false, false, false, false, false, false, false, false, false, false, false, false, false, false, false, false, false, false, false, false, false, false, false, false, false, false, false, false, false, false, false, false] rfl rfl (by kernel_rfl) (fun _ _ _ h => h) (Or.inl ⟨by rfl, ?_⟩) ?_ ?_
      rotate_left
      · intro w'
        go_simp
        with_reducible rfl
      rotate_left
      · simp only [Act.put, List.setIfInBounds_toArray, List.set_cons_zero, List.set_cons_succ, i64_w, i32_w]
        rfl
      refine pure_ (i := 5) (N := some 74) (v := ?_) (a' := ?_) #[true, true, true, true, true, true, false, false, false, false, false, false, false, false, false, false, false, false, false, false, false, false, false, false, false, false, false, false, false, false, false, false, false, false, false, false, false, false, false, false, false, false, false, false, false, false, false, false, false, false, false, false] rfl rfl (by kernel_rfl) (fun _ _ _ h => h) (Or.inl ⟨by rfl, ?_⟩) ?_ ?_
      rotate_left
      · intro w'
        go_simp
        with_reducible rfl
      rotate_left
      · simp only [Act.put, List.setIfInBounds_toArray, List.set_cons_zero, List.set_cons_succ, i64_w, i32_w]
        rfl
      refine pure_ (i := 6) (N := some 75) (v := ?_) (a' := ?_) #[true, true, true, true, true, true, true, false, false, false, false, false, false, false, false, false, false, false, false, false, false, false, false, false, false, false, false, false, false, false, false, false, false, false, false, false, false, false, false, false, false, false, false, false, false, false, false, false, false, false, false, false] rfl rfl (by kernel_rfl) (fun _ _ _ h => h) (Or.inl ⟨by rfl, ?_⟩) ?_ ?_
      rotate_left
      · intro w'
        go_simp
        with_reducible rfl
      rotate_left
      · simp only [Act.put, List.setIfInBounds_toArray, List.set_cons_zero, List.set_cons_succ, i64_w, i32_w]
        rfl
      refine pure_ (i := 7) (N := some 76) (v := ?_) (a' := ?_) #[true, true, true, true, true, true, true, true, false, false, false, false, false, false, false, false, false, false, false, false, false, false, false, false, false, false, false, false, false, false, false, false, false, false, false, false, false, false, false, false, false, false, false, false, false, false, false, false, false, false, false, false] rfl rfl (by kernel_rfl) (fun _ _ _ h => h) (Or.inl ⟨by rfl, ?_⟩) ?_ ?_
      rotate_left
      · intro w'
        go_simp
        with_reducible rfl
      rotate_left
      · simp only [Act.put, List.setIfInBounds_toArray, List.set_cons_zero, List.set_cons_succ, i64_w, i32_w]
        rfl
      refine pure_ (i := 8) (N := some 77) (v := ?_) (a' := ?_) #[true, true, true, true, true, true, true, true, true, false, false, false, false, false, false, false, false, false, false, false, false, false, false, false, false, false, false, false, false, false, false, false, false, false, false, false, false, false, false, false, false, false, false, false, false, false, false, false, false, false, false, false] rfl rfl (by kernel_rfl) (fun _ _ _ h => h) (Or.inl ⟨by rfl, ?_⟩) ?_ ?_
      rotate_left
      · intro w'
        go_simp
        with_reducible rfl
      rotate_left
      · simp only [Act.put, List.setIfInBounds_toArray, List.set_cons_zero, List.set_cons_succ, i64_w, i32_w]
        rfl
      refine pure_ (i := 9) (N := some 78) (v := ?_) (a' := ?_) #[true, true, true, true, true, true, true, true, true, true, false, false, false, false, false, false, false, false, false, false, false, false, false, false, false, false, false, false, false, false, false, false, false, false, false, false, false, false, false, false, false, false, false, false, false, false, false, false, false, false, false, false] rfl rfl (by kernel_rfl) (fun _ _ _ h => h) (Or.inl ⟨by rfl, ?_⟩) ?_ ?_
      rotate_left
      · intro w'
        go_simp
        with_reducible rfl
      rotate_left
      · simp only [Act.put, List.setIfInBounds_toArray, List.set_cons_zero, List.set_cons_succ, i64_w, i32_w]
        rfl
      refine pure_ (i := 10) (N := some 79) (v := ?_) (a' := ?_) #[true, true, true, true, true, true, true, true, true, true, true, false, false, false, false, false, false, false, false, false, false, false, false, false, false, false, false, false, false, false, false, false, false, false, false, false, false, false, false, false, false, false, false, false, false, false, false, false, false, false, false, false] rfl rfl (by kernel_rfl) (fun _ _ _ h => h) (Or.inl ⟨by rfl, ?_⟩) ?_ ?_
      rotate_left
      · intro w'
        go_simp
        with_reducible rfl
      rotate_left
      · simp only [Act.put, List.setIfInBounds_toArray, List.set_cons_zero, List.set_cons_succ, i64_w, i32_w]
        rfl
      refine pure_ (i := 11) (N := some 80) (v := ?_) (a' := ?_) #[true, true, true, true, true, true, true, true, true, true, true, true, false, false, false, false, false, false, false, false, false, false, false, false, false, false, false, false, false, false, false, false, false, false, false, false, false, false, false, false, false, false, false, false, false, false, false, false, false, false, false, false] rfl rfl (by kernel_rfl) (fun _ _ _ h => h) (Or.inl ⟨by rfl, ?_⟩) ?_ ?_
      rotate_left
      · intro w'
        go_simp
        with_reducible rfl
      rotate_left
      · simp only [Act.put, List.setIfInBounds_toArray, List.set_cons_zero, List.set_cons_succ, i64_w, i32_w]
        rfl
      refine pure_ (i := 12) (N := some 81) (v := ?_) (a' := ?_) #[true, true, true, true, true, true, true, true, true, true, true, true, true, false, false, false, false, false, false, false, false, false, false, false, false, false, false, false, false, false, false, false, false, false, false, false, false, false, false, false, false, false, false, false, false, false, false, false, false, false, false, false] rfl rfl (by kernel_rfl) (fun _ _ _ h => h) (Or.inl ⟨by rfl, ?_⟩) ?_ ?_
      rotate_left
      · intro w'
        go_simp
        with_reducible rfl
      rotate_left
      · simp only [Act.put, List.setIfInBounds_toArray, List.set_cons_zero, List.set_cons_succ, i64_w, i32_w]
        rfl
      refine pure_ (i := 13) (N := some 82) (v := ?_) (a' := ?_) #[true, true, true, true, true, true, true, true, true, true, true, true, true, true, false, false, false, false, false, false, false, false, false, false, false, false, false, false, false, false, false, false, false, false, false, false, false, false, false, false, false, false, false, false, false, false, false, false, false, false, false, false] rfl rfl (by kernel_rfl) (fun _ _ _ h => h) (Or.inl ⟨by rfl, ?_⟩) ?_ ?_
      rotate_left
      · intro w'
        go_simp
        with_reducible rfl
      rotate_left
      · simp only [Act.put, List.setIfInBounds_toArray, List.set_cons_zero, List.set_cons_succ, i64_w, i32_w]
        rfl
      refine pure_ (i := 14) (N := some 83) (v := ?_) (a' := ?_) #[true, true, true, true, true, true, true, true, true, true, true, true, true, true, true, false, false, false, false, false, false, false, false, false, false, false, false, false, false, false, false, false, false, false, false, false, false, false, false, false, false, false, false, false, false, false, false, false, false, false, false, false] rfl rfl (by kernel_rfl) (fun _ _ _ h => h) (Or.inl ⟨by rfl, ?_⟩) ?_ ?_
      rotate_left
      · intro w'
        go_simp
        with_reducible rfl
      rotate_left
      · simp only [Act.put, List.setIfInBounds_toArray, List.set_cons_zero, List.set_cons_succ, i64_w, i32_w]
        rfl
      refine pure_ (i := 15) (N := some 84) (v := ?_) (a' := ?_) #[true, true, true, true, true, true, true, true, true, true, true, true, true, true, true, true, false, false, false, false, false, false, false, false, false, false, false, false, false, false, false, false, false, false, false, false, false, false, false, false, false, false, false, false, false, false, false, false, false, false, false, false] rfl rfl (by kernel_rfl) (fun _ _ _ h => h) (Or.inl ⟨by rfl, ?_⟩) ?_ ?_
      rotate_left
      · intro w'
        go_simp
        with_reducible rfl
      rotate_left
      · simp only [Act.put, List.setIfInBounds_toArray, List.set_cons_zero, List.set_cons_succ, i64_w, i32_w]
        rfl
      refine pure_ (i := 16) (N := some 85) (v := ?_) (a' := ?_) #[true, true, true, true, true, true, true, true, true, true, true, true, true, true, true, true, true, false, false, false, false, false, false, false, false, false, false, false, false, false, false, false, false, false, false, false, false, false, false, false, false, false, false, false, false, false, false, false, false, false, false, false] rfl rfl (by kernel_rfl) (fun _ _ _ h => h) (Or.inl ⟨by rfl, ?_⟩) ?_ ?_
      rotate_left
      · intro w'
        go_simp
        with_reducible rfl
      rotate_left
      · simp only [Act.put, List.setIfInBounds_toArray, List.set_cons_zero, List.set_cons_succ, i64_w, i32_w]
        rfl
      refine pure_ (i := 17) (N := some 86) (v := ?_) (a' := ?_) #[true, true, true, true, true, true, true, true, true, true, true, true, true, true, true, true, true, true, false, false, false, false, false, false, false, false, false, false, false, false, false, false, false, false, false, false, false, false, false, false, false, false, false, false, false, false, false, false, false, false, false, false] rfl rfl (by kernel_rfl) (fun _ _ _ h => h) (Or.inl ⟨by rfl, ?_⟩) ?_ ?_
      rotate_left
      · intro w'
        go_simp
        with_reducible rfl
      rotate_left
      · simp only [Act.put, List.setIfInBounds_toArray, List.set_cons_zero, List.set_cons_succ, i64_w, i32_w]
        rfl
      refine pure_ (i := 18) (N := some 87) (v := ?_) (a' := ?_) #[true, true, true, true, true, true, true, true, true, true, true, true, true, true, true, true, true, true, true, false, false, false, false, false, false, false, false, false, false, false, false, false, false, false, false, false, false, false, false, false, false, false, false, false, false, false, false, false, false, false, false, false] rfl rfl (by kernel_rfl) (fun _ _ _ h => h) (Or.inl ⟨by rfl, ?_⟩) ?_ ?_
      rotate_left
      · intro w'
        go_simp
        with_reducible rfl
      rotate_left
      · simp only [Act.put, List.setIfInBounds_toArray, List.set_cons_zero, List.set_cons_succ, i64_w, i32_w]
        rfl
      refine pure_ (i := 19) (N := some 88) (v := ?_) (a' := ?_) #[true, true, true, true, true, true, true, true, true, true, true, true, true, true, true, true, true, true, true, true, false, false, false, false, false, false, false, false, false, false, false, false, false, false, false, false, false, false, false, false, false, false, false, false, false, false, false, false, false, false, false, false] rfl rfl (by kernel_rfl) (fun _ _ _ h => h) (Or.inl ⟨by rfl, ?_⟩) ?_ ?_
      rotate_left
      · intro w'
        go_simp
        with_reducible rfl
      rotate_left
      · simp only [Act.put, List.setIfInBounds_toArray, List.set_cons_zero, List.set_cons_succ, i64_w, i32_w]
        rfl
      refine pure_ (i := 20) (N := some 89) (v := ?_) (a' := ?_) #[true, true, true, true, true, true, true, true, true, true, true, true, true, true, true, true, true, true, true, true, true, false, false, false, false, false, false, false, false, false, false, false, false, false, false, false, false, false, false, false, false, false, false, false, false, false, false, false, false, false, false, false] rfl rfl (by kernel_rfl) (fun _ _ _ h => h) (Or.inl ⟨by rfl, ?_⟩) ?_ ?_
      rotate_left
      · intro w'
        go_simp
        with_reducible rfl
      rotate_left
      · simp only [Act.put, List.setIfInBounds_toArray, List.set_cons_zero, List.set_cons_succ, i64_w, i32_w]
        rfl
      refine pure_ (i := 21) (N := some 90) (v := ?_) (a' := ?_) #[true, true, true, true, true, true, true, true, true, true, true, true, true, true, true, true, true, true, true, true, true, true, false, false, false, false, false, false, false, false, false, false, false, false, false, false, false, false, false, false, false, false, false, false, false, false, false, false, false, false, false, false] rfl rfl (by kernel_rfl) (fun _ _ _ h => h) (Or.inl ⟨by rfl, ?_⟩) ?_ ?_
      rotate_left
      · intro w'
        go_simp
        with_reducible rfl
      rotate_left
      · simp only [Act.put, List.setIfInBounds_toArray, List.set_cons_zero, List.set_cons_succ, i64_w, i32_w]
        rfl
      refine pure_ (i := 22) (N := some 91) (v := ?_) (a' := ?_) #[true, true, true, true, true, true, true, true, true, true, true, true, true, true, true, true, true, true, true, true, true, true, true, false, false, false, false, false, false, false, false, false, false, false, false, false, false, false, false, false, false, false, false, false, false, false, false, false, false, false, false, false] rfl rfl (by kernel_rfl) (fun _ _ _ h => h) (Or.inl ⟨by rfl, ?_⟩) ?_ ?_
      rotate_left
      · intro w'
        go_simp
        with_reducible rfl
      rotate_left
      · simp only [Act.put, List.setIfInBounds_toArray, List.set_cons_zero, List.set_cons_succ, i64_w, i32_w]
        rfl
      refine pure_ (i := 23) (N := some 92) (v := ?_) (a' := ?_) #[true, true, true, true, true, true, true, true, true, true, true, true, true, true, true, true, true, true, true, true, true, true, true, true, false, false, false, false, false, false, false, false, false, false, false, false, false, false, false, false, false, false, false, false, false, false, false, false, false, false, false, false] rfl rfl (by kernel_rfl) (fun _ _ _ h => h) (Or.inl ⟨by rfl, ?_⟩) ?_ ?_
      rotate_left
      · intro w'
        go_simp
        with_reducible rfl
      rotate_left
      · simp only [Act.put, List.setIfInBounds_toArray, List.set_cons_zero, List.set_cons_succ, i64_w, i32_w]
        rfl
      refine pure_ (i := 24) (N := some 93) (v := ?_) (a' := ?_) #[true, true, true, true, true, true, true, true, true, true, true, true, true, true, true, true, true, true, true, true, true, true, true, true, true, false, false, false, false, false, false, false, false, false, false, false, false, false, false, false, false, false, false, false, false, false, false, false, false, false, false, false] rfl rfl (by kernel_rfl) (fun _ _ _ h => h) (Or.inl ⟨by rfl, ?_⟩) ?_ ?_
      rotate_left
      · intro w'
        go_simp
        with_reducible rfl
      rotate_left
      · simp only [Act.put, List.setIfInBounds_toArray, List.set_cons_zero, List.set_cons_succ, i64_w, i32_w]
        rfl
      refine pure_ (i := 25) (N := some 94) (v := ?_) (a' := ?_) #[true, true, true, true, true, true, true, true, true, true, true, true, true, true, true, true, true, true, true, true, true, true, true, true, true, true, false, false, false, false, false, false, false, false, false, false, false, false, false, false, false, false, false, false, false, false, false, false, false, false, false, false] rfl rfl (by kernel_rfl) (fun _ _ _ h => h) (Or.inl ⟨by rfl, ?_⟩) ?_ ?_
      rotate_left
      · intro w'
        go_simp
        with_reducible rfl
      rotate_left
      · simp only [Act.put, List.setIfInBounds_toArray, List.set_cons_zero, List.set_cons_succ, i64_w, i32_w]
        rfl
      refine pure_ (i := 26) (N := some 95) (v := ?_) (a' := ?_) #[true, true, true, true, true, true, true, true, true, true, true, true, true, true, true, true, true, true, true, true, true, true, true, true, true, true, true, false, false, false, false, false, false, false, false, false, false, false, false, false, false, false, false, false, false, false, false, false, false, false, false, false] rfl rfl (by kernel_rfl) (fun _ _ _ h => h) (Or.inl ⟨by rfl, ?_⟩) ?_ ?_
      rotate_left
      · intro w'
        go_simp
        with_reducible rfl
      rotate_left
      · simp only [Act.put, List.setIfInBounds_toArray, List.set_cons_zero, List.set_cons_succ, i64_w, i32_w]
        rfl
      refine pure_ (i := 27) (N := some 96) (v := ?_) (a' := ?_) #[true, true, true, true, true, true, true, true, true, true, true, true, true, true, true, true, true, true, true, true, true, true, true, true, true, true, true, true, false, false, false, false, false, false, false, false, false, false, false, false, false, false, false, false, false, false, false, false, false, false, false, false] rfl rfl (by kernel_rfl) (fun _ _ _ h => h) (Or.inl ⟨by rfl, ?_⟩) ?_ ?_
      rotate_left
      · intro w'
        go_simp
        with_reducible rfl
      rotate_left
      · simp only [Act.put, List.setIfInBounds_toArray, List.set_cons_zero, List.set_cons_succ, i64_w, i32_w]
        rfl
      refine take_ (i := 28) (N := some 97) (v := ?_) (a' := ?_) #[true, true, true, true, true, true, true, true, true, true, true, true, true, true, true, true, true, true, true, true, true, true, true, true, true, true, true, true, true, false, false, false, false, false, false, false, false, false, false, false, false, false, false, false, false, false, false, false, false, false, false, false] rfl rfl (by kernel_rfl) (fun _ _ _ h => h) (Or.inl ⟨by rfl, ?_⟩) hHeld ?_ ?_
      rotate_left
      · rintro w' hS
        have hcv := hS.cv1
        go_simp
        with_reducible rfl
      rotate_left
      · simp only [Act.put, List.setIfInBounds_toArray, List.set_cons_zero, List.set_cons_succ, i64_w, i32_w]
        rfl
      refine pure_ (i := 29) (N := some 98) (v := ?_) (a' := ?_) #[true, true, true, true, true, true, true, true, true, true, true, true, true, true, true, true, true, true, true, true, true, true, true, true, true, true, true, true, true, true, false, false, false, false, false, false, false, false, false, false, false, false, false, false, false, false, false, false, false, false, false, false] rfl rfl (by kernel_rfl) (fun _ _ _ h => h) (Or.inl ⟨by rfl, ?_⟩) ?_ ?_
      rotate_left
      · intro w'
        go_simp
        with_reducible rfl
      rotate_left
      · simp only [Act.put, List.setIfInBounds_toArray, List.set_cons_zero, List.set_cons_succ, i64_w, i32_w]
        rfl
      refine pure_ (i := 30) (N := some 99) (v := ?_) (a' := ?_) #[true, true, true, true, true, true, true, true, true, true, true, true, true, true, true, true, true, true, true, true, true, true, true, true, true, true, true, true, true, true, true, false, false, false, false, false, false, false, false, false, false, false, false, false, false, false, false, false, false, false, false, false] rfl rfl (by kernel_rfl) (fun _ _ _ h => h) (Or.inl ⟨by rfl, ?_⟩) ?_ ?_
      rotate_left
      · intro w'
        go_simp
        with_reducible rfl
      rotate_left
      · simp only [Act.put, List.setIfInBounds_toArray, List.set_cons_zero, List.set_cons_succ, i64_w, i32_w]
        rfl
      refine pure_ (i := 31) (N := some 100) (v := ?_) (a' := ?_) #[true, true, true, true, true, true, true, true, true, true, true, true, true, true, true, true, true, true, true, true, true, true, true, true, true, true, true, true, true, true, true, true, false, false, false, false, false, false, false, false, false, false, false, false, false, false, false, false, false, false, false, false] rfl rfl (by kernel_rfl) (fun _ _ _ h => h) (Or.inl ⟨by rfl, ?_⟩) ?_ ?_
      rotate_left
      · intro w'
        go_simp
        with_reducible rfl
      rotate_left
      · simp only [Act.put, List.setIfInBounds_toArray, List.set_cons_zero, List.set_cons_succ, i64_w, i32_w]
        rfl
      refine pure_ (i := 32) (N := some 101) (v := ?_) (a' := ?_) #[true, true, true, true, true, true, true, true, true, true, true, true, true, true, true, true, true, true, true, true, true, true, true, true, true, true, true, true, true, true, true, true, true, false, false, false, false, false, false, false, false, false, false, false, false, false, false, false, false, false, false, false] rfl rfl (by kernel_rfl) (fun _ _ _ h => h) (Or.inl ⟨by rfl, ?_⟩) ?_ ?_
      rotate_left
      · intro w'
        go_simp
        with_reducible rfl
      rotate_left
      · simp only [Act.put, List.setIfInBounds_toArray, List.set_cons_zero, List.set_cons_succ, i64_w, i32_w]
        rfl
      refine take_ (i := 33) (N := some 102) (v := ?_) (a' := ?_) #[true, true, true, true, true, true, true, true, true, true, true, true, true, true, true, true, true, true, true, true, true, true, true, true, true, true, true, true, true, true, true, true, true, true, false, false, false, false, false, false, false, false, false, false, false, false, false, false, false, false, false, false] rfl rfl (by kernel_rfl) (fun _ _ _ h => h) (Or.inl ⟨by rfl, ?_⟩) hHeld ?_ ?_
      rotate_left
      · rintro w' hS
        have hcv := hS.cv2
        go_simp
        with_reducible rfl
      rotate_left
      · simp only [Act.put, List.setIfInBounds_toArray, List.set_cons_zero, List.set_cons_succ, i64_w, i32_w]
        rfl
      refine pure_ (i := 34) (N := some 103) (v := ?_) (a' := ?_) #[true, true, true, true, true, true, true, true, true, true, true, true, true, true, true, true, true, true, true, true, true, true, true, true, true, true, true, true, true, true, true, true, true, true, true, false, false, false, false, false, false, false, false, false, false, false, false, false, false, false, false, false] rfl rfl (by kernel_rfl) (fun _ _ _ h => h) (Or.inl ⟨by rfl, ?_⟩) ?_ ?_
      rotate_left
      · intro w'
        go_simp
        with_reducible rfl
      rotate_left
      · simp only [Act.put, List.setIfInBounds_toArray, List.set_cons_zero, List.set_cons_succ, i64_w, i32_w]
        rfl
      refine pure_ (i := 35) (N := some 104) (v := ?_) (a' := ?_) #[true, true, true, true, true, true, true, true, true, true, true, true, true, true, true, true, true, true, true, true, true, true, true, true, true, true, true, true, true, true, true, true, true, true, true, true, false, false, false, false, false, false, false, false, false, false, false, false, false, false, false, false] rfl rfl (by kernel_rfl) (fun _ _ _ h => h) (Or.inl ⟨by rfl, ?_⟩) ?_ ?_
      rotate_left
      · intro w'
        go_simp
        with_reducible rfl
      rotate_left
      · simp only [Act.put, List.setIfInBounds_toArray, List.set_cons_zero, List.set_cons_succ, i64_w, i32_w]
        rfl
      refine pure_ (i := 36) (N := some 105) (v := ?_) (a' := ?_) #[true, true, true, true, true, true, true, true, true, true, true, true, true, true, true, true, true, true, true, true, true, true, true, true, true, true, true, true, true, true, true, true, true, true, true, true, true, false, false, false, false, false, false, false, false, false, false, false, false, false, false, false] rfl rfl (by kernel_rfl) (fun _ _ _ h => h) (Or.inl ⟨by rfl, ?_⟩) ?_ ?_
      rotate_left
      · intro w'
        go_simp
        with_reducible rfl
      rotate_left
      · simp only [Act.put, List.setIfInBounds_toArray, List.set_cons_zero, List.set_cons_succ, i64_w, i32_w]
        rfl
      refine pure_ (i := 37) (N := some 106) (v := ?_) (a' := ?_) #[true, true, true, true, true, true, true, true, true, true, true, true, true, true, true, true, true, true, true, true, true, true, true, true, true, true, true, true, true, true, true, true, true, true, true, true, true, true, false, false, false, false, false, false, false, false, false, false, false, false, false, false] rfl rfl (by kernel_rfl) (fun _ _ _ h => h) (Or.inl ⟨by rfl, ?_⟩) ?_ ?_
      rotate_left
      · intro w'
        go_simp
        with_reducible rfl
      rotate_left
      · simp only [Act.put, List.setIfInBounds_toArray, List.set_cons_zero, List.set_cons_succ, i64_w, i32_w]
        rfl
      refine pure_ (i := 38) (N := some 107) (v := ?_) (a' := ?_) #[true, true, true, true, true, true, true, true, true, true, true, true, true, true, true, true, true, true, true, true, true, true, true, true, true, true, true, true, true, true, true, true, true, true, true, true, true, true, true, false, false, false, false, false, false, false, false, false, false, false, false, false] rfl rfl (by kernel_rfl) (fun _ _ _ h => h) (Or.inl ⟨by rfl, ?_⟩) ?_ ?_
      rotate_left
      · intro w'
        go_simp
        with_reducible rfl
      rotate_left
      · simp only [Act.put, List.setIfInBounds_toArray, List.set_cons_zero, List.set_cons_succ, i64_w, i32_w]
        rfl
      refine pure_ (i := 39) (N := some 108) (v := ?_) (a' := ?_) #[true, true, true, true, true, true, true, true, true, true, true, true, true, true, true, true, true, true, true, true, true, true, true, true, true, true, true, true, true, true, true, true, true, true, true, true, true, true, true, true, false, false, false, false, false, false, false, false, false, false, false, false] rfl rfl (by kernel_rfl) (fun _ _ _ h => h) (Or.inl ⟨by rfl, ?_⟩) ?_ ?_
      rotate_left
      · intro w'
        go_simp
        with_reducible rfl
      rotate_left
      · simp only [Act.put, List.setIfInBounds_toArray, List.set_cons_zero, List.set_cons_succ, i64_w, i32_w]
        rfl
      refine pure_ (i := 40) (N := some 109) (v := ?_) (a' := ?_) #[true, true, true, true, true, true, true, true, true, true, true, true, true, true, true, true, true, true, true, true, true, true, true, true, true, true, true, true, true, true, true, true, true, true, true, true, true, true, true, true, true, false, false, false, false, false, false, false, false, false, false, false] rfl rfl (by kernel_rfl) (fun _ _ _ h => h) (Or.inl ⟨by rfl, ?_⟩) ?_ ?_
      rotate_left
      · intro w'
        go_simp
        with_reducible rfl
      rotate_left
      · simp only [Act.put, List.setIfInBounds_toArray, List.set_cons_zero, List.set_cons_succ, i64_w, i32_w]
        rfl
      refine pure_ (i := 41) (N := some 110) (v := ?_) (a' := ?_) #[true, true, true, true, true, true, true, true, true, true, true, true, true, true, true, true, true, true, true, true, true, true, true, true, true, true, true, true, true, true, true, true, true, true, true, true, true, true, true, true, true, true, false, false, false, false, false, false, false, false, false, false] rfl rfl (by kernel_rfl) (fun _ _ _ h => h) (Or.inl ⟨by rfl, ?_⟩) ?_ ?_
      rotate_left
      · intro w'
        go_simp
        with_reducible rfl
      rotate_left
      · simp only [Act.put, List.setIfInBounds_toArray, List.set_cons_zero, List.set_cons_succ, i64_w, i32_w]
        rfl
      refine take_ (i := 42) (N := some 111) (v := ?_) (a' := ?_) #[true, true, true, true, true, true, true, true, true, true, true, true, true, true, true, true, true, true, true, true, true, true, true, true, true, true, true, true, true, true, true, true, true, true, true, true, true, true, true, true, true, true, true, false, false, false, false, false, false, false, false, false] rfl rfl (by kernel_rfl) (fun _ _ _ h => h) (Or.inl ⟨by rfl, ?_⟩) hHeld ?_ ?_
      rotate_left
      · rintro w' hS
        have hcv := hS.cv3
        go_simp
        with_reducible rfl
      rotate_left
      · simp only [Act.put, List.setIfInBounds_toArray, List.set_cons_zero, List.set_cons_succ, i64_w, i32_w]
        rfl
      refine pure_ (i := 43) (N := some 112) (v := ?_) (a' := ?_) #[true, true, true, true, true, true, true, true, true, true, true, true, true, true, true, true, true, true, true, true, true, true, true, true, true, true, true, true, true, true, true, true, true, true, true, true, true, true, true, true, true, true, true, true, false, false, false, false, false, false, false, false] rfl rfl (by kernel_rfl) (fun _ _ _ h => h) (Or.inl ⟨by rfl, ?_⟩) ?_ ?_
      rotate_left
      · intro w'
        go_simp
        with_reducible rfl
      rotate_left
      · simp only [Act.put, List.setIfInBounds_toArray, List.set_cons_zero, List.set_cons_succ, i64_w, i32_w]
        rfl
      refine pure_ (i := 44) (N := some 113) (v := ?_) (a' := ?_) #[true, true, true, true, true, true, true, true, true, true, true, true, true, true, true, true, true, true, true, true, true, true, true, true, true, true, true, true, true, true, true, true, true, true, true, true, true, true, true, true, true, true, true, true, true, false, false, false, false, false, false, false] rfl rfl (by kernel_rfl) (fun _ _ _ h => h) (Or.inl ⟨by rfl, ?_⟩) ?_ ?_
      rotate_left
      · intro w'
        go_simp
        with_reducible rfl
      rotate_left
      · simp only [Act.put, List.setIfInBounds_toArray, List.set_cons_zero, List.set_cons_succ, i64_w, i32_w]
        rfl
      refine pure_ (i := 45) (N := some 114) (v := ?_) (a' := ?_) #[true, true, true, true, true, true, true, true, true, true, true, true, true, true, true, true, true, true, true, true, true, true, true, true, true, true, true, true, true, true, true, true, true, true, true, true, true, true, true, true, true, true, true, true, true, true, false, false, false, false, false, false] rfl rfl (by kernel_rfl) (fun _ _ _ h => h) (Or.inl ⟨by rfl, ?_⟩) ?_ ?_
      rotate_left
      · intro w'
        go_simp
        with_reducible rfl
      rotate_left
      · simp only [Act.put, List.setIfInBounds_toArray, List.set_cons_zero, List.set_cons_succ, i64_w, i32_w]
        rfl
      refine pure_ (i := 46) (N := some 115) (v := ?_) (a' := ?_) #[true, true, true, true, true, true, true, true, true, true, true, true, true, true, true, true, true, true, true, true, true, true, true, true, true, true, true, true, true, true, true, true, true, true, true, true, true, true, true, true, true, true, true, true, true, true, true, false, false, false, false, false] rfl rfl (by kernel_rfl) (fun _ _ _ h => h) (Or.inl ⟨by rfl, ?_⟩) ?_ ?_
      rotate_left
      · intro w'
        go_simp
        with_reducible rfl
      rotate_left
      · simp only [Act.put, List.setIfInBounds_toArray, List.set_cons_zero, List.set_cons_succ, i64_w, i32_w]
        rfl
      refine pure_ (i := 47) (N := some 116) (v := ?_) (a' := ?_) #[true, true, true, true, true, true, true, true, true, true, true, true, true, true, true, true, true, true, true, true, true, true, true, true, true, true, true, true, true, true, true, true, true, true, true, true, true, true, true, true, true, true, true, true, true, true, true, true, false, false, false, false] rfl rfl (by kernel_rfl) (fun _ _ _ h => h) (Or.inl ⟨by rfl, ?_⟩) ?_ ?_
      rotate_left
      · intro w'
        go_simp
        with_reducible rfl
      rotate_left
      · simp only [Act.put, List.setIfInBounds_toArray, List.set_cons_zero, List.set_cons_succ, i64_w, i32_w]
        rfl
      refine take_ (i := 48) (N := some 117) (v := ?_) (a' := ?_) #[true, true, true, true, true, true, true, true, true, true, true, true, true, true, true, true, true, true, true, true, true, true, true, true, true, true, true, true, true, true, true, true, true, true, true, true, true, true, true, true, true, true, true, true, true, true, true, true, true, false, false, false] rfl rfl (by kernel_rfl) (fun _ _ _ h => h) (Or.inl ⟨by rfl, ?_⟩) hHeld ?_ ?_
      rotate_left
      · rintro w' hS
        have hcv := hS.cv4
        go_simp
        with_reducible rfl
      rotate_left
      · simp only [Act.put, List.setIfInBounds_toArray, List.set_cons_zero, List.set_cons_succ, i64_w, i32_w]
        rfl
      refine pure_ (i := 49) (N := some 118) (v := ?_) (a' := ?_) #[true, true, true, true, true, true, true, true, true, true, true, true, true, true, true, true, true, true, true, true, true, true, true, true, true, true, true, true, true, true, true, true, true, true, true, true, true, true, true, true, true, true, true, true, true, true, true, true, true, true, false, false] rfl rfl (by kernel_rfl) (fun _ _ _ h => h) (Or.inl ⟨by rfl, ?_⟩) ?_ ?_
      rotate_left
      · intro w'
        go_simp
        with_reducible rfl
      rotate_left
      · simp only [Act.put, List.setIfInBounds_toArray, List.set_cons_zero, List.set_cons_succ, i64_w, i32_w]
        rfl
      refine pure_ (i := 50) (N := some 119) (v := ?_) (a' := ?_) #[true, true, true, true, true, true, true, true, true, true, true, true, true, true, true, true, true, true, true, true, true, true, true, true, true, true, true, true, true, true, true, true, true, true, true, true, true, true, true, true, true, true, true, true, true, true, true, true, true, true, true, false] rfl rfl (by kernel_rfl) (fun _ _ _ h => h) (Or.inl ⟨by rfl, ?_⟩) ?_ ?_
      rotate_left
      · intro w'
        go_simp
        with_reducible rfl
      rotate_left
      · simp only [Act.put, List.setIfInBounds_toArray, List.set_cons_zero, List.set_cons_succ, i64_w, i32_w]
        rfl
      refine pure_ (i := 51) (N := some 2) (v := ?_) (a' := ?_) #[true, true, true, true, true, true, true, true, true, true, true, true, true, true, true, true, true, true, true, true, true, true, true, true, true, true, true, true, true, true, true, true, true, true, true, true, true, true, true, true, true, true, true, true, true, true, true, true, true, true, true, true] rfl rfl (by kernel_rfl) (fun _ _ _ h => h) (Or.inl ⟨by rfl, ?_⟩) ?_ ?_
      rotate_left
      · intro w'
        go_simp
        with_reducible rfl
      rotate_left
      · simp only [Act.put, List.setIfInBounds_toArray, List.set_cons_zero, List.set_cons_succ, i64_w, i32_w]
        rfl
      refine done_ (by kernel_rfl) ?_
      go_wp2_with fail
      go_ret
      exact ⟨by simp, hHeld.below⟩
theorem full_wf (q : Int) (h : (Lit.int .u8 q).wf = true) (w : World) : Calls Try.prog 6 #[.int .u8 q] w fun e w' => e = .returned (.bool true) ∧ Below w.heap.size w w' := by
  have h2 : 0 ≤ q ∧ q ≤ 255 := by
    simp [Lit.wf, IntKind.min, IntKind.max, IntKind.bits, IntKind.signed] at h
    omega
  exact full_any q h2.1 h2.2 w
end Go.Proofs.Ytinfjmdcmfpdiaa.Lw
