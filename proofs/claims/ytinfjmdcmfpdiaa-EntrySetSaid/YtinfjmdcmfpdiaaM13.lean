/- Walks and plain laws on which the claim stands, several texts joined. -/
import Derived.Test.YtinfjmdcmfpdiaaM12
import Derived.Test.YtinfjmdcmfpdiaaM11
import Derived.Maps.Views
import Derived.LoopTactic
import Derived.Maps.OwnSet
import Derived.Deep.DeepCutAuto
import Derived.Deep.CutRange

/- EntryAdds: its walk. -/
namespace Go.Proofs.Ytinfjmdcmfpdiaa.Lw
open Go.RowKit Go.Proofs.Ytinfjmdcmfpdiaa.Rt Go.Proofs.Ytinfjmdcmfpdiaa.Md Go.Proofs.Ytinfjmdcmfpdiaa.Al Go.Proofs.Ytinfjmdcmfpdiaa.Pc Go.Proofs.Ytinfjmdcmfpdiaa.Fn Go.Proofs.Ytinfjmdcmfpdiaa.Ad Go.Proofs.Ytinfjmdcmfpdiaa.Rm Go.Proofs.YtinfjmdcmfpdiaaW.PrintWords Go.Proofs.YtinfjmdcmfpdiaaW.PrintLast Go.Proofs.YtinfjmdcmfpdiaaW.PrintMore
set_option linter.unusedVariables false
set_option linter.unusedSimpArgs false

/-- The entry's box stands. -/
structure AdS (w : World) (n : ByteArray) (ino : Int) (W : World) : Prop where
  x : W.heap[w.heap.size]? = some (.cells #[.string n, .int .i64 ino] 23 (0, 0))
  below : Below w.heap.size w W
section
variable {w W W' : World} {n : ByteArray} {ino : Int}
theorem AdS.step (h : AdS w n ino W) (hb : Below W.heap.size W W') : AdS w n ino W' := ⟨blk_below h.x hb, below_step h.below hb⟩
theorem AdS.drew (h : AdS w n ino W) : AdS w n ino W.drew := h.step (below_drew1 (Below.refl _ _))
theorem AdS.cells (h : AdS w n ino W) : W.cell? ⟨w.heap.size, 0, none⟩ = some (.string n) ∧ W.cell? ⟨w.heap.size, 1, none⟩ = some (.int .i64 ino) := ⟨(blk_cell h.x 0).trans rfl, (blk_cell h.x 1).trans rfl⟩
end
theorem add_eq (A0 : Option Addr) (c0 : Nat) (l0 : List Int) (n : ByteArray) (ino : Int) (C : List Int) (E : Int) (w : World) (hn : n.size ≤ maxLen) (hb : Bytes l0) (hr0 : Kd.C (Kd.int .u8) w A0 l0.length l0) (hc0 : l0.length ≤ c0) (h : addA l0 n ino = (C, E)) :
    Calls Try.prog 18 #[.slice A0 l0.length c0, .agg #[.string n, .int .i64 ino]] w fun e w' => ∃ v : Value, e = .returned (.tuple #[v, .int .i64 E]) ∧ Kd.R (Kd.int .u8) 5 w' w.heap.size (fun _ => True) v C ∧ Below w.heap.size w w' := by
  have := add_any A0 c0 l0 n ino w hn hb hr0 hc0
  rw [h] at this
  exact this
theorem rm_eq (A0 : Option Addr) (c0 : Nat) (l0 : List Int) (n : ByteArray) (C : List Int) (E : Int) (w : World) (hn : n.size ≤ maxLen) (hb : Bytes l0) (hr0 : Kd.C (Kd.int .u8) w A0 l0.length l0) (hc0 : l0.length ≤ c0) (h : removeA l0 n = (C, E)) :
    Calls Try.prog 20 #[.slice A0 l0.length c0, .string n] w fun e w' => ∃ v : Value, e = .returned (.tuple #[v, .int .i64 E]) ∧ Kd.R (Kd.int .u8) 5 w' w.heap.size (fun _ => True) v C ∧ Below w.heap.size w w' := by
  have := remove_any A0 c0 l0 n w hn hb hr0 hc0
  rw [h] at this
  exact this
theorem fillS_le (s : List Sl) (hs : s.length ≤ 240) (hok : AllOk s) (e : ByteArray × Int) (he : okE e) (F : Option Nat) : (fillS s e F).1.length ≤ 3840 := by
  cases F with
  | some k => show (bytesS (s.set k (some e))).length ≤ 3840; rw [bytesS_len (hok.set k (fun e' h => by injection h with h; rw [← h]; exact he)), List.length_set]; omega
  | none =>
    unfold fillS
    by_cases h : s.length < 240
    · simp only; rw [if_pos h]; show (bytesS (s ++ [some e])).length ≤ 3840; rw [bytesS_len (hok.append (.one he)), List.length_append]; simp; omega
    · simp only; rw [if_neg h]; simp
theorem addA_le (l : List Int) (n : ByteArray) (i : Int) : (addA l n i).1.length ≤ 3840 := by
  unfold addA
  cases hd : dirO l with
  | none => simp
  | some s =>
    obtain ⟨_, hg⟩ := dir_good hd
    simp only
    unfold addS
    by_cases h0 : (La.layA n i).2 = 0
    · rw [if_pos h0]
      split
      · simp
      · obtain ⟨k1, k2, k3, k4⟩ := layA_ok (show La.layA n i = ((La.layA n i).1, 0) from Prod.ext rfl h0)
        exact fillS_le s hg.room hg.ok (n, i) ⟨k1, k2, k3⟩ _
    · rw [if_neg h0]; simp
theorem trimGo_len (t : List Sl) : ∀ m, m ≤ t.length → (trimGo t m).length ≤ m ∧ ∀ o ∈ trimGo t m, o ∈ t := by
  intro m
  induction m with
  | zero => intro _; exact ⟨Nat.le_refl _, fun o h => by simp [trimGo] at h⟩
  | succ m ih =>
    intro hm
    simp only [trimGo]
    split
    · obtain ⟨h1, h2⟩ := ih (by omega)
      exact ⟨by omega, h2⟩
    · exact ⟨by rw [List.length_take]; omega, fun o h => List.mem_of_mem_take h⟩
theorem trim_ok {t : List Sl} (h : AllOk t) : AllOk (trim t) ∧ (trim t).length ≤ t.length := by
  obtain ⟨h1, h2⟩ := trimGo_len t t.length (Nat.le_refl _)
  exact ⟨fun e he => h e (h2 _ he), h1⟩
theorem removeA_le (l : List Int) (n : ByteArray) : (removeA l n).1.length ≤ 3840 := by
  unfold removeA
  cases hd : dirO l with
  | none => simp
  | some s =>
    obtain ⟨_, hg⟩ := dir_good hd
    simp only
    unfold removeS
    split
    · obtain ⟨h1, h2⟩ := trim_ok (hg.ok.set (placeA s n).toNat (o := none) (fun e h => by cases h))
      have := hg.room
      show (bytesS _).length ≤ 3840
      rw [bytesS_len h1]
      rw [List.length_set] at h2
      omega
    · simp

set_option maxHeartbeats 8000000 in
set_option maxRecDepth 100000 in
theorem adds_any (A0 : Option Addr) (c0 : Nat) (l0 : List Int) (n : ByteArray) (ino : Int) (m : ByteArray) (w : World) (hb : Bytes l0) (hr0 : Kd.C (Kd.int .u8) w A0 l0.length l0) (hc0 : l0.length ≤ c0) (hn : n.size ≤ maxLen) (hm : m.size ≤ maxLen) :
    Calls Try.prog 4 #[.slice A0 l0.length c0, .agg #[.string n, .int .i64 ino], .string m] w fun e w' => e = .returned (.bool true) ∧ Below w.heap.size w w' := by
  obtain ⟨t, -, htb, ht5, htc, htC, htF⟩ := few_t A0 c0 l0 hr0.2.1 hc0
  have HR := Lib.hid (htC w hr0)
  have HB := Lib.hid (htb hb)
  have HF := Lib.hid htF
  obtain ⟨K1, k1⟩ := (add_ev HB.out n ino).rounds
  obtain ⟨K2, k2⟩ := (remove_ev HB.out m).rounds
  have hC1 := addA_le t n ino
  have hG1 := removeA_le t m
  obtain ⟨C1, E1, hA⟩ : ∃ C E, addA t n ino = (C, E) := ⟨_, _, rfl⟩
  obtain ⟨G1, H1, hG⟩ : ∃ C E, removeA t m = (C, E) := ⟨_, _, rfl⟩
  rw [hA] at k1 hC1
  rw [hG] at k2 hG1
  simp only at hC1 hG1
  replace k1 := Lib.hid k1
  replace k2 := Lib.hid k2
  replace hA := Lib.hid hA
  replace hG := Lib.hid hG
  clear hb hr0 htb htC htF
  have b0 : n.size ≤ 9223372036854775807 := by unfold maxLen at hn; omega
  have b0' : m.size ≤ 9223372036854775807 := by unfold maxLen at hm; omega
  by_cases hbig : n.size > 1000 ∨ m.size > 1000
  · have hsplit : decide ((n.size : Int) > 1000) = true ∨ (decide ((n.size : Int) > 1000) = false ∧ decide ((m.size : Int) > 1000) = true) := by
      by_cases h : n.size > 1000
      · exact .inl (decide_eq_true (by omega))
      · exact .inr ⟨decide_eq_false (by omega), decide_eq_true (by omega)⟩
    rcases hsplit with b1 | ⟨b1, b2⟩
    all_goals
      go_enter Try.func4, Try.ntmps4
      go_wp2_with fail
      refine (P.moatlaw12_shown.calls true _ rfl).mono ?_
      rintro e w1 ⟨rfl, hb⟩
      have hB := Lib.hid (below_step (below_alloc (Below.refl _ _) _) hb)
      have d0 : w1.cell? ⟨w.heap.size, 0, none⟩ = some (.string n) := (blk_cell (blk_below (blk_new w (.cells #[.string n, .int .i64 ino] 23)) hb) 0).trans rfl
      clear hb
      go_wp2_with fail
      go_ret
      exact ⟨by simp, hB.out⟩
  · have b1 : decide ((n.size : Int) > 1000) = false := decide_eq_false (by omega)
    have b2 : decide ((m.size : Int) > 1000) = false := decide_eq_false (by omega)
    have q1 : ((strOfNums C1).toList == (strOfNums C1).toList) = true := beq_self_eq_true _
    have q2 : (E1 == E1) = true := beq_self_eq_true _
    have q3 : ((strOfNums G1).toList == (strOfNums G1).toList) = true := beq_self_eq_true _
    have q4 : (H1 == H1) = true := beq_self_eq_true _
    have q5 : ((strOfNums t).toList == (strOfNums t).toList) = true := beq_self_eq_true _
    go_enter Try.func4, Try.ntmps4
    go_wp2_with fail
    refine (P.moatlaw12_shown.calls true _ rfl).mono ?_
    rintro e w1 ⟨rfl, hb⟩
    have hS := Lib.hid (AdS.mk (blk_below (blk_new w (.cells #[.string n, .int .i64 ino] 23)) hb) (below_step (below_alloc (Below.refl _ _) _) hb))
    clear hb
    have d0 : w1.cell? ⟨w.heap.size, 0, none⟩ = some (.string n) := hS.out.cells.1
    go_wp2_with fail
    refine (HF.out _).mono ?_
    rintro e w2 ⟨rfl, hw⟩
    subst hw
    have hcv := Kd.C_string (P := Try.prog) (c := c0) Try.underlying24 Try.underlying5 Try.underlying9 (Kd.C_below HR.out hS.out.below)
    clear d0
    go_wp2_with fail
    clear hcv
    refine start_ (n := 9) (S := AdS w n ino) (ds := []) #[false, false, false, false, false, false, false, false, false] (by kernel_rfl) rfl rfl hS.out.drew (fun hHeld => ?_)
    refine pure_ (i := 0) (N := some 35) (v := ?_) (a' := ?_) #[true, false, false, false, false, false, false, false, false] rfl rfl (by kernel_rfl) (fun _ _ _ h => h) (Or.inl ⟨by rfl, ?_⟩) ?_ ?_
    rotate_left
    · intro w'
      go_simp
      with_reducible rfl
    rotate_left
    · simp only [Act.put, List.setIfInBounds_toArray, List.set_cons_zero, List.set_cons_succ, i64_w, i32_w]
      rfl
    refine take_ (i := 2) (N := some 37) (v := ?_) (a' := ?_) #[true, false, true, false, false, false, false, false, false] rfl rfl (by kernel_rfl) (fun _ _ _ h => h) (Or.inl ⟨by rfl, ?_⟩) hHeld ?_ ?_
    rotate_left
    · rintro w' hS
      obtain ⟨g0, g1⟩ := hS.cells
      go_simp
      with_reducible rfl
    rotate_left
    · simp only [Act.put, List.setIfInBounds_toArray, List.set_cons_zero, List.set_cons_succ, i64_w, i32_w]
      rfl
    refine one_ (i := 1) (N := some 36) #[true, true, true, false, false, false, false, false, false] rfl rfl (by kernel_rfl) (by decide) (fun K hK => ?_)
    refine goes_ Try.func14 (by kernel_rfl) rfl #[.slice A0 l0.length c0] (by rfl) rfl rfl (by (try simp only [List.map_toArray, List.map_cons, List.map_nil]); first | done | rfl) ?_
    with_reducible refine (HF.out _).mono ?_
    rintro e w9 ⟨rfl, hw⟩
    refine ⟨_, rfl, ?_⟩
    subst hw
    refine hK.out _ _ hHeld (fun hHeld => ?_)
    clear hK K
    refine norm_ (a' := ?_) ?_ ?_
    rotate_left
    · show Act.put _ (some 36) _ = _
      simp only [Act.put, List.setIfInBounds_toArray, List.set_cons_zero, List.set_cons_succ, i64_w, i32_w]
      rfl
    refine one_ (i := 3) (N := some 38) #[true, true, true, true, false, false, false, false, false] rfl rfl (by kernel_rfl) (by decide) (fun K hK => ?_)
    refine goes_ Try.func18 (by kernel_rfl) rfl #[.slice A0 t.length c0, .agg #[.string n, .int .i64 ino]] (by rfl) rfl rfl (by (try simp only [List.map_toArray, List.map_cons, List.map_nil]); first | done | rfl) ?_
    with_reducible refine (add_eq A0 c0 t n ino C1 E1 _ hn HB.out (Kd.C_below HR.out hHeld.below) htc hA.out).mono ?_
    rintro e w2 ⟨v1, rfl, hoc, hb⟩
    refine ⟨_, rfl, ?_⟩
    have hS2 := hHeld.step hb
    obtain ⟨A1, c1, ev⟩ := Kd.R_slice hoc
    subst ev
    replace hoc := Lib.hid (Kd.R_lower hoc hHeld.below.size)
    refine hK.out _ _ hS2 (fun hHeld => ?_)
    clear hK K hb
    refine norm_ (a' := ?_) ?_ ?_
    rotate_left
    · show Act.put _ (some 38) _ = _
      simp only [Act.put, List.setIfInBounds_toArray, List.set_cons_zero, List.set_cons_succ, i64_w, i32_w]
      rfl
    refine pure_ (i := 4) (N := some 34) (v := ?_) (a' := ?_) #[true, true, true, true, true, false, false, false, false] rfl rfl (by kernel_rfl) (fun _ _ _ h => h) (Or.inl ⟨by rfl, ?_⟩) ?_ ?_
    rotate_left
    · intro w'
      go_simp
      with_reducible rfl
    rotate_left
    · simp only [Act.put, List.setIfInBounds_toArray, List.set_cons_zero, List.set_cons_succ, i64_w, i32_w]
      rfl
    refine pure_ (i := 5) (N := some 39) (v := ?_) (a' := ?_) #[true, true, true, true, true, true, false, false, false] rfl rfl (by kernel_rfl) (fun _ _ _ h => h) (Or.inl ⟨by rfl, ?_⟩) ?_ ?_
    rotate_left
    · intro w'
      go_simp
      with_reducible rfl
    rotate_left
    · simp only [Act.put, List.setIfInBounds_toArray, List.set_cons_zero, List.set_cons_succ, i64_w, i32_w]
      rfl
    refine pure_ (i := 6) (N := some 40) (v := ?_) (a' := ?_) #[true, true, true, true, true, true, true, false, false] rfl rfl (by kernel_rfl) (fun _ _ _ h => h) (Or.inl ⟨by rfl, ?_⟩) ?_ ?_
    rotate_left
    · intro w'
      go_simp
      with_reducible rfl
    rotate_left
    · simp only [Act.put, List.setIfInBounds_toArray, List.set_cons_zero, List.set_cons_succ, i64_w, i32_w]
      rfl
    refine pure_ (i := 7) (N := some 9) (v := ?_) (a' := ?_) #[true, true, true, true, true, true, true, true, false] rfl rfl (by kernel_rfl) (fun _ _ _ h => h) (Or.inl ⟨by rfl, ?_⟩) ?_ ?_
    rotate_left
    · intro w'
      go_simp
      with_reducible rfl
    rotate_left
    · simp only [Act.put, List.setIfInBounds_toArray, List.set_cons_zero, List.set_cons_succ, i64_w, i32_w]
      rfl
    refine pure_ (i := 8) (N := some 10) (v := ?_) (a' := ?_) #[true, true, true, true, true, true, true, true, true] rfl rfl (by kernel_rfl) (fun _ _ _ h => h) (Or.inl ⟨by rfl, ?_⟩) ?_ ?_
    rotate_left
    · intro w'
      go_simp
      with_reducible rfl
    rotate_left
    · simp only [Act.put, List.setIfInBounds_toArray, List.set_cons_zero, List.set_cons_succ, i64_w, i32_w]
      rfl
    refine done_ (by kernel_rfl) ?_
    replace hS := Lib.hid hHeld
    clear hHeld hS2
    go_wp2_with fail
    refine start_ (n := 9) (S := AdS w n ino) (ds := []) #[false, false, false, false, false, false, false, false, false] (by kernel_rfl) rfl rfl hS.out.drew (fun hHeld => ?_)
    refine pure_ (i := 0) (N := some 42) (v := ?_) (a' := ?_) #[true, false, false, false, false, false, false, false, false] rfl rfl (by kernel_rfl) (fun _ _ _ h => h) (Or.inl ⟨by rfl, ?_⟩) ?_ ?_
    rotate_left
    · intro w'
      go_simp
      with_reducible rfl
    rotate_left
    · simp only [Act.put, List.setIfInBounds_toArray, List.set_cons_zero, List.set_cons_succ, i64_w, i32_w]
      rfl
    refine take_ (i := 2) (N := some 44) (v := ?_) (a' := ?_) #[true, false, true, false, false, false, false, false, false] rfl rfl (by kernel_rfl) (fun _ _ _ h => h) (Or.inl ⟨by rfl, ?_⟩) hHeld ?_ ?_
    rotate_left
    · rintro w' hS
      obtain ⟨g0, g1⟩ := hS.cells
      go_simp
      with_reducible rfl
    rotate_left
    · simp only [Act.put, List.setIfInBounds_toArray, List.set_cons_zero, List.set_cons_succ, i64_w, i32_w]
      rfl
    refine one_ (i := 1) (N := some 43) #[true, true, true, false, false, false, false, false, false] rfl rfl (by kernel_rfl) (by decide) (fun K hK => ?_)
    refine goes_ Try.func14 (by kernel_rfl) rfl #[.slice A0 l0.length c0] (by rfl) rfl rfl (by (try simp only [List.map_toArray, List.map_cons, List.map_nil]); first | done | rfl) ?_
    with_reducible refine (HF.out _).mono ?_
    rintro e w9 ⟨rfl, hw⟩
    refine ⟨_, rfl, ?_⟩
    subst hw
    refine hK.out _ _ hHeld (fun hHeld => ?_)
    clear hK K
    refine norm_ (a' := ?_) ?_ ?_
    rotate_left
    · show Act.put _ (some 43) _ = _
      simp only [Act.put, List.setIfInBounds_toArray, List.set_cons_zero, List.set_cons_succ, i64_w, i32_w]
      rfl
    refine one_ (i := 3) (N := some 45) #[true, true, true, true, false, false, false, false, false] rfl rfl (by kernel_rfl) (by decide) (fun K hK => ?_)
    refine goes_ Try.func19 (by kernel_rfl) rfl #[.slice A0 t.length c0, .agg #[.string n, .int .i64 ino]] (by rfl) rfl rfl (by (try simp only [List.map_toArray, List.map_cons, List.map_nil]); first | done | rfl) ?_
    with_reducible refine (D.moatref12_Add.calls K1 A0 c0 t n ino C1 E1 _ (Kd.C_below HR.out hHeld.below) htc k1.out).mono ?_
    rintro e w3 ⟨v2, rfl, hod, hb⟩
    refine ⟨_, rfl, ?_⟩
    have hS2 := hHeld.step hb
    obtain ⟨A2, c2, ev⟩ := Kd.R_slice hod
    subst ev
    replace hod := Lib.hid hod
    replace hoc := Lib.hid (Kd.R_below (Kd.R_drew hoc.out) hb)
    refine hK.out _ _ hS2 (fun hHeld => ?_)
    clear hK K hb
    refine norm_ (a' := ?_) ?_ ?_
    rotate_left
    · show Act.put _ (some 45) _ = _
      simp only [Act.put, List.setIfInBounds_toArray, List.set_cons_zero, List.set_cons_succ, i64_w, i32_w]
      rfl
    refine pure_ (i := 4) (N := some 41) (v := ?_) (a' := ?_) #[true, true, true, true, true, false, false, false, false] rfl rfl (by kernel_rfl) (fun _ _ _ h => h) (Or.inl ⟨by rfl, ?_⟩) ?_ ?_
    rotate_left
    · intro w'
      go_simp
      with_reducible rfl
    rotate_left
    · simp only [Act.put, List.setIfInBounds_toArray, List.set_cons_zero, List.set_cons_succ, i64_w, i32_w]
      rfl
    refine pure_ (i := 5) (N := some 46) (v := ?_) (a' := ?_) #[true, true, true, true, true, true, false, false, false] rfl rfl (by kernel_rfl) (fun _ _ _ h => h) (Or.inl ⟨by rfl, ?_⟩) ?_ ?_
    rotate_left
    · intro w'
      go_simp
      with_reducible rfl
    rotate_left
    · simp only [Act.put, List.setIfInBounds_toArray, List.set_cons_zero, List.set_cons_succ, i64_w, i32_w]
      rfl
    refine pure_ (i := 6) (N := some 47) (v := ?_) (a' := ?_) #[true, true, true, true, true, true, true, false, false] rfl rfl (by kernel_rfl) (fun _ _ _ h => h) (Or.inl ⟨by rfl, ?_⟩) ?_ ?_
    rotate_left
    · intro w'
      go_simp
      with_reducible rfl
    rotate_left
    · simp only [Act.put, List.setIfInBounds_toArray, List.set_cons_zero, List.set_cons_succ, i64_w, i32_w]
      rfl
    refine pure_ (i := 7) (N := some 11) (v := ?_) (a' := ?_) #[true, true, true, true, true, true, true, true, false] rfl rfl (by kernel_rfl) (fun _ _ _ h => h) (Or.inl ⟨by rfl, ?_⟩) ?_ ?_
    rotate_left
    · intro w'
      go_simp
      with_reducible rfl
    rotate_left
    · simp only [Act.put, List.setIfInBounds_toArray, List.set_cons_zero, List.set_cons_succ, i64_w, i32_w]
      rfl
    refine pure_ (i := 8) (N := some 12) (v := ?_) (a' := ?_) #[true, true, true, true, true, true, true, true, true] rfl rfl (by kernel_rfl) (fun _ _ _ h => h) (Or.inl ⟨by rfl, ?_⟩) ?_ ?_
    rotate_left
    · intro w'
      go_simp
      with_reducible rfl
    rotate_left
    · simp only [Act.put, List.setIfInBounds_toArray, List.set_cons_zero, List.set_cons_succ, i64_w, i32_w]
      rfl
    refine done_ (by kernel_rfl) ?_
    replace hS := Lib.hid hHeld
    clear hHeld hS2
    replace hod := Lib.hid (Kd.R_reads' hod.out).2.2
    go_wp2_with fail
    refine (HF.out _).mono ?_
    rintro e w4 ⟨rfl, hw⟩
    subst hw
    go_wp2_with fail
    refine (rm_eq A0 c0 t m G1 H1 _ hm HB.out (Kd.C_below HR.out hS.out.below) htc hG.out).mono ?_
    rintro e w5 ⟨v3, rfl, hog, hb⟩
    obtain ⟨A3, c3, ev⟩ := Kd.R_slice hog
    subst ev
    obtain ⟨hs, hhs⟩ : ∃ hs, hs = w4.heap.size := ⟨_, rfl⟩
    have hlo : Hid (∀ k, (Value.slice A1 C1.length c1).ownBlock = some k → k < hs) := Lib.hid (by rw [hhs]; exact Kd.R_lt hoc.out)
    have hws : Hid (w.heap.size ≤ hs) := Lib.hid (by rw [hhs]; exact hS.out.below.size)
    rw [← hhs] at hog
    clear hhs
    replace hog := Lib.hid hog
    replace hoc := Lib.hid (Kd.R_below hoc.out hb)
    replace hod := Lib.hid (Kd.C_below hod.out hb)
    replace hS := Lib.hid (hS.out.step hb)
    clear hb
    go_wp2_with fail
    refine (HF.out _).mono ?_
    rintro e w6 ⟨rfl, hw⟩
    subst hw
    go_wp2_with fail
    refine (D.moatref12_Remove.calls K2 A0 c0 t m G1 H1 _ (Kd.C_below HR.out hS.out.below) htc k2.out).mono ?_
    rintro e w7 ⟨v4, rfl, hoi, hb⟩
    obtain ⟨A4, c4, ev⟩ := Kd.R_slice hoi
    subst ev
    replace hoi := Lib.hid (Kd.R_reads' hoi).2.2
    replace hog := Lib.hid (Kd.R_below hog.out hb)
    replace hoc := Lib.hid (Kd.R_below hoc.out hb)
    replace hod := Lib.hid (Kd.C_below hod.out hb)
    replace hS := Lib.hid (hS.out.step hb)
    clear hb
    have hcv1 := Kd.C_string (P := Try.prog) (c := c1) Try.underlying24 Try.underlying5 Try.underlying9 (Kd.R_reads' hoc.out).2.2
    have hcv2 := Kd.C_string (P := Try.prog) (c := c2) Try.underlying24 Try.underlying5 Try.underlying9 hod.out
    have hcv3 := Kd.C_string (P := Try.prog) (c := c3) Try.underlying24 Try.underlying5 Try.underlying9 (Kd.R_reads' hog.out).2.2
    have hcv4 := Kd.C_string (P := Try.prog) (c := c4) Try.underlying24 Try.underlying5 Try.underlying9 hoi.out
    go_wp2_with fail
    clear hcv1 hcv2 hcv3 hcv4 hod hoi
    obtain ⟨nc, hnc⟩ : ∃ nc, nc = C1.length := ⟨_, rfl⟩
    obtain ⟨ng, hng⟩ : ∃ ng, ng = G1.length := ⟨_, rfl⟩
    rw [← hnc] at hoc hlo hC1 ⊢
    rw [← hng] at hog hG1 ⊢
    have hB := Lib.hid hS.out.below
    clear hS
    replace hnc := Lib.hid hnc
    replace hng := Lib.hid hng
    go_loopw [86] (fun i wr => ∃ (k : Nat) (xs : List Int), i = .int .i64 k ∧ k ≤ nc ∧ Hid (xs.length = nc) ∧ Hid (Kd.R (Kd.int .u8) 5 wr w.heap.size (fun _ => True) (.slice A1 nc c1) xs) ∧ Hid (Kd.R (Kd.int .u8) 5 wr hs (fun _ => True) (.slice A3 ng c3) G1) ∧ Hid (Below w.heap.size w wr)) (fun i _ => nc - (intOf i).toNat)
    case atStart => exact ⟨0, C1, rfl, Nat.zero_le _, Lib.hid hnc.out.symm, hoc, hog, hB⟩
    case round =>
      obtain ⟨k, xs, rfl, hk, hxl, hoc, hog, hB⟩ := hrel
      by_cases hlt : k < nc
      · have e1 : decide ((k : Int) < (nc : Int)) = true := decide_eq_true (by omega)
        have e2 : 0 ≤ (k : Int) := by omega
        have e3 : (k : Int) < (nc : Int) := by omega
        obtain ⟨g, cap, ev, -⟩ := Kd.R_form hoc.out (by have := hxl.out; omega)
        injection ev with ev1 ev2 ev3
        subst ev1 ev3
        obtain ⟨hcell, hfro⟩ := Kd.R_celln (0 : Int) hoc.out (k : Int) e2 e3
        rw [Int.toNat_natCast] at hcell hfro
        replace hcell : wr.cell? ⟨g, k, none⟩ = some (.int .u8 (rdOf 0 xs (k : Int))) := hcell
        go_wp2_with fail
        have hg1 : g < hs := hlo.out g rfl
        have hg0 : w.heap.size ≤ g := Kd.R_base hoc.out g rfl
        refine ⟨⟨k + 1, xs.set k (bits BinOp.xor IntKind.u8 (rdOf 0 xs (k : Int)) 85), by go_num, by omega, Lib.hid (by rw [List.length_set]; exact hxl.out), Lib.hid (by have h := Kd.R_putn hoc.out (k : Int) (bits BinOp.xor IntKind.u8 (rdOf 0 xs (k : Int)) 85); rw [Int.toNat_natCast] at h; exact h), Lib.hid (Kd.R_mono (Kd.R_far (Kd.R_bound hog.out) (p := ⟨g, k, none⟩) (fun j hj => by have := hj.2.1; intro he; simp only at he; omega) _) (fun _ _ => trivial)), Lib.hid (below_set hB.out hg0)⟩, by simp [intOf]; omega⟩
      · obtain rfl : k = nc := by omega
        have e1 : decide ((k : Int) < (k : Int)) = false := decide_eq_false (by omega)
        clear hoc hlo
        go_wp2_with fail
        go_loopw [98] (fun i wr => ∃ (j : Nat) (ys : List Int), i = .int .i64 j ∧ j ≤ ng ∧ Hid (ys.length = ng) ∧ Hid (Kd.R (Kd.int .u8) 5 wr hs (fun _ => True) (.slice A3 ng c3) ys) ∧ Hid (Below w.heap.size w wr)) (fun i _ => ng - (intOf i).toNat)
        case atStart => exact ⟨0, G1, rfl, Nat.zero_le _, Lib.hid hng.out.symm, hog, hB⟩
        case round =>
          clear hog hB
          obtain ⟨j, ys, rfl, hj, hyl, hog, hB⟩ := hrel
          by_cases hlt : j < ng
          · have f1 : decide ((j : Int) < (ng : Int)) = true := decide_eq_true (by omega)
            have f2 : 0 ≤ (j : Int) := by omega
            have f3 : (j : Int) < (ng : Int) := by omega
            obtain ⟨g, cap, ev, -⟩ := Kd.R_form hog.out (by have := hyl.out; omega)
            injection ev with ev1 ev2 ev3
            subst ev1 ev3
            obtain ⟨hcell, hfro⟩ := Kd.R_celln (0 : Int) hog.out (j : Int) f2 f3
            rw [Int.toNat_natCast] at hcell hfro
            go_wp2_with fail
            have hg0 : hs ≤ g := Kd.R_base hog.out g rfl
            refine ⟨⟨j + 1, ys.set j (bits BinOp.xor IntKind.u8 (rdOf 0 ys (j : Int)) 85), by go_num, by omega, Lib.hid (by rw [List.length_set]; exact hyl.out), Lib.hid (by have h := Kd.R_putn hog.out (j : Int) (bits BinOp.xor IntKind.u8 (rdOf 0 ys (j : Int)) 85); rw [Int.toNat_natCast] at h; exact h), Lib.hid (below_set hB.out (by have := hws.out; omega))⟩, by simp [intOf]; omega⟩
          · obtain rfl : j = ng := by omega
            have f1 : decide ((j : Int) < (j : Int)) = false := decide_eq_false (by omega)
            clear hog
            go_wp2_with fail
            refine (HF.out _).mono ?_
            rintro e w9 ⟨rfl, hw⟩
            subst hw
            have hcv := Kd.C_string (P := Try.prog) (c := c0) Try.underlying24 Try.underlying5 Try.underlying9 (Kd.C_below HR.out hB.out)
            go_wp2_with fail
            go_ret
            exact ⟨by simp, hB.out⟩
end Go.Proofs.Ytinfjmdcmfpdiaa.Lw

/- What entry.Add changes, and what entry.Remove takes back. No walk. -/
namespace Go.Proofs.Ytinfjmdcmfpdiaa.Md
open Go.RowKit Go.Proofs.Ytinfjmdcmfpdiaa.Rt Go.Proofs.Ytinfjmdcmfpdiaa.Pc Go.Proofs.YtinfjmdcmfpdiaaW.PrintWords Go.Proofs.YtinfjmdcmfpdiaaW.PrintLast Go.Proofs.YtinfjmdcmfpdiaaW.PrintMore

theorem freeGo_spec (s : List Sl) : ∀ k, (∃ j, ∃ h : j < s.length, freeGo s k = some (k + j) ∧ s[j] = none) ∨ (freeGo s k = none ∧ ∀ j (h : j < s.length), s[j] ≠ none) := by
  induction s with
  | nil => intro k; right; exact ⟨rfl, fun j h => by simp at h⟩
  | cons o r ih =>
    intro k
    cases o with
    | none => left; exact ⟨0, by simp, rfl, rfl⟩
    | some e =>
      rcases ih (k + 1) with ⟨j, hj, h1, h2⟩ | ⟨h1, h2⟩
      · left; exact ⟨j + 1, by simp; omega, by show freeGo r (k + 1) = _; rw [h1]; congr 1; omega, by simpa using h2⟩
      · right
        refine ⟨h1, fun j h => ?_⟩
        cases j with
        | zero => simp
        | succ j => simpa using h2 j (by simpa using h)
theorem placeGo_split (n : ByteArray) (a : List Sl) (i : Int) (b : List Sl) : ∀ k : Nat, n ∉ names a → placeGo n (a ++ some (n, i) :: b) k = ((k + a.length : Nat) : Int) := by
  induction a with
  | nil => intro k _; show (if n = n then (k : Int) else placeGo n b (k + 1)) = _; rw [if_pos rfl]; rfl
  | cons o r ih =>
    intro k hm
    cases o with
    | none =>
      have : n ∉ names r := by simpa [names] using hm
      show placeGo n (r ++ some (n, i) :: b) (k + 1) = _
      rw [ih (k + 1) this, List.length_cons]; congr 1; omega
    | some e =>
      have e3 : names (some e :: r) = e.1 :: names r := by simp [names]
      rw [e3, List.mem_cons, not_or] at hm
      show (if e.1 = n then (k : Int) else placeGo n (r ++ some (n, i) :: b) (k + 1)) = _
      rw [if_neg (fun h => hm.1 h.symm), ih (k + 1) hm.2, List.length_cons]; congr 1; omega
theorem names_sub_take {s : List Sl} {n : ByteArray} (h : n ∉ names s) (k : Nat) : n ∉ names (s.take k) := fun hm => by
  obtain ⟨i, hi⟩ := names_mem.1 hm
  exact h (names_mem.2 ⟨i, List.mem_of_mem_take hi⟩)
theorem set_split (s : List Sl) (k : Nat) (o : Sl) (hk : k < s.length) : s.set k o = s.take k ++ o :: s.drop (k + 1) := by
  conv => lhs; rw [← List.take_append_drop k s, List.drop_eq_getElem_cons hk]
  rw [List.set_append_right _ _ (by rw [List.length_take]; omega)]
  have : k - (s.take k).length = 0 := by rw [List.length_take]; omega
  rw [this]; rfl
theorem trimGo_append (t u : List Sl) : ∀ m, m ≤ t.length → trimGo (t ++ u) m = trimGo t m := by
  intro m
  induction m with
  | zero => intro _; rfl
  | succ m ih =>
    intro hm
    simp only [trimGo]
    rw [List.getElem?_append_left (by omega), ih (by omega), List.take_append_of_le_length hm]
theorem trim_none (s : List Sl) : trim (s ++ [none]) = trim s := by
  unfold trim
  rw [List.length_append]
  show trimGo (s ++ [none]) (s.length + 1) = _
  simp only [trimGo]
  rw [if_pos (by rw [List.getElem?_append_right (Nat.le_refl _)]; simp), trimGo_append s [none] s.length (Nat.le_refl _)]
theorem trimGo_prefix (t : List Sl) : ∀ m, m ≤ t.length → ∃ j, j ≤ m ∧ trimGo t m = t.take j := by
  intro m
  induction m with
  | zero => intro _; exact ⟨0, Nat.le_refl _, by simp [trimGo]⟩
  | succ m ih =>
    intro hm
    simp only [trimGo]
    split
    · obtain ⟨j, h1, h2⟩ := ih (by omega)
      exact ⟨j, by omega, h2⟩
    · exact ⟨m + 1, Nat.le_refl _, rfl⟩
theorem good_fill {s : List Sl} (hg : Good s) {n : ByteArray} {i : Int} (he : okE (n, i)) (hm : n ∉ names s) {k : Nat} (hk : k < s.length) (hs : s[k] = none) : Good (s.set k (some (n, i))) := by
  refine ⟨hg.ok.set k (fun e h => by injection h with h; rw [← h]; exact he), ?_, by rw [List.length_set]; exact hg.room⟩
  have e : s = s.take k ++ none :: s.drop (k + 1) := by
    conv => lhs; rw [← List.take_append_drop k s, List.drop_eq_getElem_cons hk, hs]
  have hn := hg.apart
  have e1 : names s = names (s.take k) ++ names (s.drop (k + 1)) := by
    conv => lhs; rw [e]
    rw [names_append]; simp [names]
  have e2 : names (s.set k (some (n, i))) = names (s.take k) ++ n :: names (s.drop (k + 1)) := by rw [set_split s k _ hk, names_append]; simp [names]
  rw [e1] at hn hm
  rw [e2]
  rw [List.mem_append, not_or] at hm
  rw [List.nodup_append] at hn ⊢
  refine ⟨hn.1, List.nodup_cons.2 ⟨hm.2, hn.2.1⟩, ?_⟩
  intro a ha b hb
  rcases List.mem_cons.1 hb with rfl | hb
  · rintro rfl; exact hm.1 ha
  · exact hn.2.2 a ha b hb
theorem good_more {s : List Sl} (hg : Good s) {n : ByteArray} {i : Int} (he : okE (n, i)) (hm : n ∉ names s) (hl : s.length < 240) : Good (s ++ [some (n, i)]) := by
  refine ⟨hg.ok.append (.one he), ?_, by rw [List.length_append]; simp; omega⟩
  rw [names_append, names_some, List.nodup_append]
  exact ⟨hg.apart, by simp, by intro a ha b hb; simp at hb; subst hb; rintro rfl; exact hm ha⟩

/-- A directory with an entry more, in slots. -/
theorem add_cases {t : List Int} {n : ByteArray} {i : Int} {C : List Int} (h : addA t n i = (C, 0)) :
    ∃ s : List Sl, t = bytesS s ∧ Good s ∧ okE (n, i) ∧ n ∉ names s ∧
      ((∃ k, ∃ hk : k < s.length, s[k] = none ∧ C = bytesS (s.set k (some (n, i)))) ∨ (s.length < 240 ∧ (∀ j (hj : j < s.length), s[j] ≠ none) ∧ C = bytesS (s ++ [some (n, i)]))) := by
  unfold addA at h
  cases hd : dirO t with
  | none => rw [hd] at h; injection h with h1 h2; cases h2
  | some s =>
    rw [hd] at h
    obtain ⟨hl, hg⟩ := dir_good hd
    simp only at h
    unfold addS at h
    by_cases h0 : (La.layA n i).2 = 0
    · rw [if_pos h0] at h
      obtain ⟨k1, k2, k3, k4⟩ := layA_ok (show La.layA n i = ((La.layA n i).1, 0) from Prod.ext rfl h0)
      rcases place_cases n s with ⟨h1, h2, h3⟩ | ⟨j, i', hj, h1, h2, h3⟩
      · rw [if_neg (by omega)] at h
        refine ⟨s, hl, hg, ⟨k1, k2, k3⟩, h3, ?_⟩
        rcases freeGo_spec s 0 with ⟨j, hj, f1, f2⟩ | ⟨f1, f2⟩
        · left
          rw [f1, Nat.zero_add] at h
          injection h with h4 h5
          exact ⟨j, hj, f2, h4.symm⟩
        · right
          rw [f1] at h
          unfold fillS at h
          by_cases hf : s.length < 240
          · simp only at h; rw [if_pos hf] at h; injection h with h4 h5; exact ⟨hf, f2, h4.symm⟩
          · simp only at h; rw [if_neg hf] at h; injection h with h4 h5; cases h5
      · rw [if_pos (by omega)] at h; injection h with h4 h5; cases h5
    · rw [if_neg h0] at h; injection h with h4 h5; exact absurd h5 h0
theorem remove_good {s : List Sl} (hg : Good s) (n : ByteArray) : removeA (bytesS s) n = removeS s n := by unfold removeA; rw [good_dir hg]

/-- EntryOthers, plainly. -/
theorem others_plain {t : List Int} {n : ByteArray} {i : Int} {C : List Int} (h : addA t n i = (C, 0)) :
    ∃ (m : Nat) (r : List Int), t.length = 16 * m ∧ m ≤ 240 ∧ Bytes C ∧ removeA C n = (r, 0) ∧ r.length ≤ t.length ∧ r = t.take r.length ∧
      ((C.length = t.length ∧ ∃ k, k < m ∧ ∀ j, j < m → (entL C j = entL t j ↔ j ≠ k)) ∨ (C.length = t.length + 16 ∧ ∀ j, j < m → entL C j = entL t j)) := by
  obtain ⟨s, rfl, hg, he, hm, hcase⟩ := add_cases h
  have hlen := bytesS_len hg.ok
  have hr : ∃ r, bytesS (trim s) = r ∧ r.length ≤ (bytesS s).length ∧ r = (bytesS s).take r.length := by
    obtain ⟨j, h1, h2⟩ := trimGo_prefix s s.length (Nat.le_refl _)
    refine ⟨_, rfl, ?_, ?_⟩
    · unfold trim; rw [h2, bytesS_len (hg.ok.take j), List.length_take]; omega
    · unfold trim
      rw [h2, bytesS_len (hg.ok.take j), List.length_take, Nat.min_eq_left h1, bytesS_take hg.ok h1]
  obtain ⟨r, hr1, hr2, hr3⟩ := hr
  rcases hcase with ⟨k, hk, hsk, rfl⟩ | ⟨hlt, hfull, rfl⟩
  · have hg2 := good_fill hg he hm hk hsk
    refine ⟨s.length, r, hlen, hg.room, bytesS_bytes hg2.ok, ?_, hr2, hr3, .inl ⟨by rw [bytesS_len hg2.ok, List.length_set, hlen], k, hk, fun j hj => ?_⟩⟩
    · have hp : placeA (s.set k (some (n, i))) n = (k : Int) := by
        unfold placeA
        rw [set_split s k _ hk, placeGo_split n _ i _ 0 (names_sub_take hm k), List.length_take]
        congr 1; omega
      rw [remove_good hg2]
      unfold removeS
      rw [hp, if_pos (by omega), Int.toNat_natCast, List.set_set]
      have e : s.set k none = s := by rw [← hsk]; exact List.set_getElem_self hk
      rw [e, hr1]
    · rw [entL_bytes hg2.ok j (by rw [List.length_set]; exact hj), entL_bytes hg.ok j hj]
      by_cases hjk : j = k
      · subst hjk
        rw [List.getElem_set_self, hsk]
        exact ⟨fun h => absurd h (layL_ne n i he.size.1), fun h => absurd rfl h⟩
      · rw [List.getElem_set_ne (fun h => hjk h.symm)]
        exact ⟨fun _ => hjk, fun _ => rfl⟩
  · have hg2 := good_more hg he hm hlt
    refine ⟨s.length, r, hlen, hg.room, bytesS_bytes hg2.ok, ?_, hr2, hr3, .inr ⟨by rw [bytesS_len hg2.ok, List.length_append, hlen]; simp; omega, fun j hj => ?_⟩⟩
    · have hp : placeA (s ++ [some (n, i)]) n = (s.length : Int) := by
        unfold placeA
        rw [placeGo_split n s i [] 0 hm]; congr 1; omega
      rw [remove_good hg2]
      unfold removeS
      rw [hp, if_pos (by omega), Int.toNat_natCast, List.set_append_right _ _ (Nat.le_refl _), Nat.sub_self]
      show (bytesS (trim (s ++ [none])), (0 : Int)) = _
      rw [trim_none, hr1]
    · rw [entL_bytes hg2.ok j (by rw [List.length_append]; simp; omega), entL_bytes hg.ok j hj, List.getElem_append_left hj]
end Go.Proofs.Ytinfjmdcmfpdiaa.Md

/- The names of EntryFull: the closure's walk. -/
namespace Go.Proofs.Ytinfjmdcmfpdiaa.Nm
open Go.RowKit Go.Proofs.Ytinfjmdcmfpdiaa.Rt Go.Proofs.Ytinfjmdcmfpdiaa.Md Go.Proofs.Ytinfjmdcmfpdiaa.Al Go.Proofs.Ytinfjmdcmfpdiaa.Pc Go.Proofs.YtinfjmdcmfpdiaaW.PrintWords Go.Proofs.YtinfjmdcmfpdiaaW.PrintLast Go.Proofs.YtinfjmdcmfpdiaaW.PrintMore
set_option linter.unusedVariables false
set_option linter.unusedSimpArgs false

/-- The i-th name. -/
def nmB (i : Nat) : ByteArray := ⟨#[110, 97, 109, 101]⟩ ++ strOfNums [97 + (i : Int) / 16, 97 + (i : Int) % 16]

set_option maxHeartbeats 2000000 in
set_option maxRecDepth 100000 in
theorem name_any (i : Nat) (hi : i < 240) (w : World) : Calls Try.prog 22 #[.int .i64 (i : Int)] w fun e w' => e = .returned (.string (nmB i)) ∧ Below w.heap.size w w' := by
  have b1 : 0 ≤ (i : Int) := by omega
  have b2 : (i : Int) ≤ 239 := by omega
  have b3 : (i : Int) / 16 ≤ 14 := by omega
  have b4 : 0 ≤ (i : Int) / 16 := by omega
  have b5 : (i : Int) % 16 ≤ 15 := by omega
  have b6 : 0 ≤ (i : Int) % 16 := by omega
  obtain ⟨z, hz⟩ : ∃ z, z = strOfNums [97 + (i : Int) / 16, 97 + (i : Int) % 16] := ⟨_, rfl⟩
  have hcv : (convert 24 9 (.slice (some ⟨w.heap.size, 0, none⟩) 2 2)).run Try.prog (w.alloc (.cells #[.int .u8 (97 + (i : Int) / 16), .int .u8 (97 + (i : Int) % 16)] 5)) = .ok (.string z) (w.alloc (.cells #[.int .u8 (97 + (i : Int) / 16), .int .u8 (97 + (i : Int) % 16)] 5)) := by
    rw [hz]
    exact own_string (P := Try.prog) Try.underlying24 Try.underlying5 Try.underlying9 (own_lit w w.heap.size 5 .u8 [97 + (i : Int) / 16, 97 + (i : Int) % 16] (Nat.le_refl _) (by simp))
  have hN : Hid (nmB i = ⟨#[110, 97, 109, 101]⟩ ++ z) := Lib.hid (by rw [hz]; rfl)
  have z1 : 4 + z.size ≤ 9223372036854775807 := by rw [hz, strOfNums_size]; simp
  have z2 : (9223372036854775807 < 4 + z.size) = False := eq_false (Nat.not_lt.2 z1)
  have z3 : decide (4 + z.size ≤ 9223372036854775807) = true := decide_eq_true z1
  clear hz
  go_enter Try.func22, Try.ntmps22
  go_wp2_with fail
  go_ret
  rw [hN.out]
  exact ⟨rfl, (Below.refl _ _).alloc (Nat.le_refl _) _⟩

theorem nm_data (i : Nat) : (nmB i).data.toList = [110, 97, 109, 101, UInt8.ofNat (97 + (i : Int) / 16).toNat, UInt8.ofNat (97 + (i : Int) % 16).toNat] := by
  unfold nmB
  rw [ByteArray.data_append, Array.toList_append]
  rfl
theorem nm_size (i : Nat) : (nmB i).size = 6 := by rw [Lib.size_eq, nm_data]; rfl
theorem nm_right : ∀ i : Fin 240, rightB (nmB i.1).data.toList = true := by decide +kernel
theorem nm_inj {i j : Nat} (hi : i < 240) (hj : j < 240) (h : nmB i = nmB j) : i = j := by
  have h1 := congrArg (fun b : ByteArray => b.data.toList) h
  simp only [nm_data, List.cons.injEq, and_true, true_and] at h1
  obtain ⟨h2, h3⟩ := h1
  have h4 := congrArg UInt8.toNat h2
  have h5 := congrArg UInt8.toNat h3
  rw [UInt8.toNat_ofNat', UInt8.toNat_ofNat'] at h4 h5
  omega
theorem nm_ok (i : Nat) (hi : i < 240) : okE (nmB i, (i : Int) % 64) := ⟨nm_right ⟨i, hi⟩, by simp only; omega, by simp only; omega⟩
/-- The directory of the first i names. -/
def rows : Nat → List Sl
  | 0 => []
  | i + 1 => rows i ++ [some (nmB i, (i : Int) % 64)]
theorem rows_len : ∀ i, (rows i).length = i
  | 0 => rfl
  | i + 1 => by simp [rows, rows_len i]
theorem rows_names (i : Nat) : ∀ n, n ∈ names (rows i) → ∃ j, j < i ∧ n = nmB j := by
  induction i with
  | zero => intro n h; cases h
  | succ i ih =>
    intro n h
    rw [rows, names_append, List.mem_append] at h
    rcases h with h | h
    · obtain ⟨j, hj, e⟩ := ih n h; exact ⟨j, by omega, e⟩
    · simp [names] at h; exact ⟨i, by omega, h⟩
theorem rows_fresh {i : Nat} (hi : i < 240) : nmB i ∉ names (rows i) := fun h => by
  obtain ⟨j, hj, e⟩ := rows_names i _ h
  have := nm_inj hi (by omega) e
  omega
theorem rows_good : ∀ i, i ≤ 240 → Md.Good (rows i)
  | 0, _ => ⟨.nil, by simp [rows, names], by simp [rows]⟩
  | i + 1, h => good_more (rows_good i (by omega)) (nm_ok i (by omega)) (rows_fresh (by omega)) (by rw [rows_len]; omega)
theorem rows_some (i : Nat) : ∀ j (hj : j < (rows i).length), (rows i)[j] ≠ none := by
  induction i with
  | zero => intro j hj; simp [rows] at hj
  | succ i ih =>
    intro j hj
    have hl := rows_len i
    simp only [rows]
    by_cases h : j < (rows i).length
    · rw [List.getElem_append_left h]; exact ih j h
    · rw [List.getElem_append_right (by omega)]; simp
theorem rows_full (i : Nat) : freeGo (rows i) 0 = none := by
  rcases freeGo_spec (rows i) 0 with ⟨j, hj, _, h⟩ | ⟨h, _⟩
  · exact absurd h (rows_some i j hj)
  · exact h
theorem rows_at (i j : Nat) (h : j < i) : (rows i)[j]'(by rw [rows_len]; exact h) = some (nmB j, (j : Int) % 64) := by
  induction i with
  | zero => omega
  | succ i ih =>
    simp only [rows]
    by_cases hj : j < i
    · rw [List.getElem_append_left (by rw [rows_len]; exact hj)]; exact ih hj
    · obtain rfl : j = i := by omega
      rw [List.getElem_append_right (by rw [rows_len]; omega)]
      simp [rows_len]
theorem add_good {s : List Sl} (hg : Md.Good s) (n : ByteArray) (i : Int) : addA (bytesS s) n i = addS s n i := by unfold addA; rw [good_dir hg]
theorem addS_free {s : List Sl} {n : ByteArray} {i : Int} (he : okE (n, i)) (hn : n ∉ names s) : addS s n i = fillS s (n, i) (freeGo s 0) := by
  unfold addS
  rw [layA_right he.1 he.2.1 he.2.2, if_pos rfl]
  rcases place_cases n s with ⟨h1, h2, h3⟩ | ⟨j, i', hj, h1, h2, h3⟩
  · rw [if_neg (by omega)]
  · exact absurd (names_mem.2 ⟨i', by rw [← h2]; exact List.getElem_mem hj⟩) hn
theorem add_row (i : Nat) (hi : i < 240) : addA (bytesS (rows i)) (nmB i) ((i : Int) % 64) = (bytesS (rows (i + 1)), 0) := by
  rw [add_good (rows_good i (by omega)), addS_free (nm_ok i hi) (rows_fresh hi), rows_full]
  unfold fillS
  simp only
  rw [if_pos (by rw [rows_len]; exact hi)]
  rfl
/-- One name more. -/
def bMore : ByteArray := ⟨#[109, 111, 114, 101]⟩
theorem more_ok (i : Int) (h0 : 0 ≤ i) (h1 : i < 64) : okE (bMore, i) := ⟨by rfl, h0, h1⟩
theorem more_ne (j : Nat) : bMore ≠ nmB j := fun h => by
  have := congrArg ByteArray.size h
  rw [nm_size] at this
  cases this
theorem more_fresh (i : Nat) : bMore ∉ names (rows i) := fun h => by
  obtain ⟨j, _, e⟩ := rows_names i _ h
  exact more_ne j e
theorem add_full : addA (bytesS (rows 240)) bMore 0 = ([], 5) := by
  rw [add_good (rows_good 240 (by omega)), addS_free (more_ok 0 (by omega) (by omega)) (more_fresh 240), rows_full]
  unfold fillS
  simp only
  rw [if_neg (by rw [rows_len]; omega)]
theorem place_in {s : List Sl} (hg : Md.Good s) {k : Nat} {n : ByteArray} {i : Int} (hk : k < s.length) (hs : s[k] = some (n, i)) : placeA s n = (k : Int) := by
  have e0 : s = s.take k ++ some (n, i) :: s.drop (k + 1) := by rw [← hs, ← List.drop_eq_getElem_cons hk, List.take_append_drop]
  have hn : n ∉ names (s.take k) := fun h => by
    have hg := hg.apart
    have e : names s = names (s.take k) ++ n :: names (s.drop (k + 1)) := by
      conv => lhs; rw [e0]
      rw [names_append]; simp [names]
    rw [e, List.nodup_append] at hg
    exact hg.2.2 _ h _ (by simp) rfl
  unfold placeA
  conv => lhs; rw [e0]
  rw [placeGo_split _ _ _ _ 0 hn, List.length_take]
  congr 1; omega
theorem place_at (k : Nat) (hk : k < 240) : placeA (rows 240) (nmB k) = (k : Int) :=
  place_in (rows_good 240 (by omega)) (by rw [rows_len]; exact hk) (rows_at 240 k hk)
theorem trim_full {t : List Sl} {m : Nat} {e : ByteArray × Int} (hl : t.length = m + 1) (h : t[m]? = some (some e)) : trim t = t := by
  unfold trim
  rw [hl]
  simp only [trimGo]
  rw [if_neg (by rw [h]; simp), List.take_of_length_le (by omega)]
theorem trim_set {R : List Sl} {e : ByteArray × Int} (hl : R.length = 240) (h : R[239] = some e) (k : Nat) (hk : k < 239) : trim (R.set k none) = R.set k none := by
  refine trim_full (m := 239) (e := e) (by rw [List.length_set, hl]) ?_
  rw [List.getElem?_set_ne (by omega), List.getElem?_eq_getElem (by omega), h]
theorem remove_at (k : Nat) (hk : k < 239) : removeA (bytesS (rows 240)) (nmB k) = (bytesS ((rows 240).set k none), 0) := by
  rw [remove_good (rows_good 240 (by omega))]
  unfold removeS
  rw [place_at k (by omega), if_pos (by omega), Int.toNat_natCast, trim_set (rows_len 240) (rows_at 240 239 (by omega)) k hk]
theorem names_less {s : List Sl} {n : ByteArray} (k : Nat) (h : n ∉ names s) : n ∉ names (s.set k none) := fun hm => by
  obtain ⟨i, hi⟩ := names_mem.1 hm
  rcases List.mem_or_eq_of_mem_set hi with h2 | h2
  · exact h (names_mem.2 ⟨i, h2⟩)
  · cases h2
theorem good_less {s : List Sl} (hg : Md.Good s) (k : Nat) (hk : k < s.length) : Md.Good (s.set k none) := by
  refine ⟨hg.ok.set k (fun e h => by cases h), ?_, by rw [List.length_set]; exact hg.room⟩
  have hn := hg.apart
  have e : s = s.take k ++ s[k] :: s.drop (k + 1) := by rw [← List.drop_eq_getElem_cons hk, List.take_append_drop]
  have e2 : names (s.set k none) = names (s.take k) ++ names (s.drop (k + 1)) := by rw [set_split s k _ hk, names_append]; simp [names]
  have e1 : names s = names (s.take k) ++ names (s[k] :: s.drop (k + 1)) := by
    conv => lhs; rw [e]
    rw [names_append]
  rw [e1] at hn
  rw [e2]
  cases hs : s[k] with
  | none => rw [hs] at hn; simpa [names] using hn
  | some p =>
    rw [hs] at hn
    have e3 : names (some p :: s.drop (k + 1)) = p.1 :: names (s.drop (k + 1)) := by simp [names]
    rw [e3, List.nodup_append, List.nodup_cons] at hn
    rw [List.nodup_append]
    exact ⟨hn.1, hn.2.1.2, fun a ha b hb => hn.2.2 a ha b (List.mem_cons_of_mem _ hb)⟩
theorem freeGo_at (a : List Sl) (b : List Sl) (h : ∀ o ∈ a, o ≠ none) : ∀ k, freeGo (a ++ none :: b) k = some (k + a.length) := by
  induction a with
  | nil => intro k; rfl
  | cons o r ih =>
    intro k
    cases o with
    | none => exact absurd rfl (h none (by simp))
    | some e =>
      show freeGo (r ++ none :: b) (k + 1) = _
      rw [ih (fun o ho => h o (List.mem_cons_of_mem _ ho)), List.length_cons]; congr 1; omega
theorem add_again (k : Nat) (hk : k < 239) : addA (bytesS ((rows 240).set k none)) bMore 7 = (bytesS ((rows 240).set k (some (bMore, 7))), 0) := by
  have hl : k < (rows 240).length := by rw [rows_len]; omega
  rw [add_good (good_less (rows_good 240 (by omega)) k hl), addS_free (more_ok 7 (by omega) (by omega)) (names_less k (more_fresh 240))]
  have hf : freeGo ((rows 240).set k none) 0 = some k := by
    rw [set_split _ k _ hl, freeGo_at _ _ _ 0]
    · rw [List.length_take, rows_len]; congr 1; omega
    · intro o ho
      obtain ⟨j, hj, e⟩ := List.mem_take_iff_getElem.1 ho
      rw [← e]
      exact rows_some 240 j (by omega)
  rw [hf]
  show (bytesS (((rows 240).set k none).set k (some (bMore, 7))), (0 : Int)) = _
  rw [List.set_set]
theorem full_len {s : List Sl} (hs : AllOk s) (h : s.length = 240) : (bytesS s).length = 3840 := by rw [bytesS_len hs, h]
theorem full_take {s : List Sl} (hs : AllOk s) (k : Nat) (hk : k < s.length) (o : Sl) (ho : ∀ e, o = some e → okE e) : (bytesS (s.set k o)).take (16 * k) = (bytesS s).take (16 * k) := by
  rw [bytesS_take (hs.set k ho) (by rw [List.length_set]; omega), bytesS_take hs (by omega), List.take_set_of_le (Nat.le_refl _)]
theorem full_drop {s : List Sl} (hs : AllOk s) (k : Nat) (hk : k < s.length) (o : Sl) (ho : ∀ e, o = some e → okE e) : (bytesS (s.set k o)).drop (16 * (k + 1)) = (bytesS s).drop (16 * (k + 1)) := by
  have h2 := hs.set k ho
  have e1 : ∀ t : List Sl, AllOk t → k < t.length → (bytesS t).drop (16 * (k + 1)) = bytesS (t.drop (k + 1)) := by
    intro t ht hl
    have e : bytesS t = bytesS (t.take (k + 1)) ++ bytesS (t.drop (k + 1)) := by rw [← bytesS_append, List.take_append_drop]
    have hlen : (bytesS (t.take (k + 1))).length = 16 * (k + 1) := by rw [bytesS_len (ht.take _), List.length_take]; omega
    rw [e, List.drop_append_of_le_length (by omega), List.drop_of_length_le (by omega), List.nil_append]
  rw [e1 _ h2 (by rw [List.length_set]; exact hk), e1 s hs hk, List.drop_set_of_lt (by omega)]
end Go.Proofs.Ytinfjmdcmfpdiaa.Nm

/- EntrySet, plainly: what a map of names holds, beside a directory's slots. No walk. -/
namespace Go.Proofs.Ytinfjmdcmfpdiaa.St
open Go.RowKit Go.Maps Go.Proofs.Ytinfjmdcmfpdiaa.Rt Go.Proofs.Ytinfjmdcmfpdiaa.Md Go.Proofs.Ytinfjmdcmfpdiaa.Al Go.Proofs.Ytinfjmdcmfpdiaa.Pc Go.Proofs.Ytinfjmdcmfpdiaa.Nm Go.Proofs.Ytinfjmdcmfpdiaa.Lw Go.Proofs.YtinfjmdcmfpdiaaW.PrintWords Go.Proofs.YtinfjmdcmfpdiaaW.PrintLast Go.Proofs.YtinfjmdcmfpdiaaW.PrintMore

/-- The entries. -/
def ents (s : List Sl) : List (ByteArray × Int) := s.filterMap id
theorem ents_append (s t : List Sl) : ents (s ++ t) = ents s ++ ents t := by simp [ents]
theorem ents_none (s : List Sl) : ents (none :: s) = ents s := rfl
theorem ents_some (e : ByteArray × Int) (s : List Sl) : ents (some e :: s) = e :: ents s := rfl
theorem mem_ents {s : List Sl} {e : ByteArray × Int} : e ∈ ents s ↔ some e ∈ s := by simp [ents]
theorem names_ents (s : List Sl) : names s = (ents s).map Prod.fst := by
  induction s with
  | nil => rfl
  | cons o r ih =>
    cases o with
    | none => rw [ents_none, ← ih]; simp [names]
    | some e => rw [ents_some, List.map_cons, ← ih]; simp [names]
theorem entsOf_ents (s : List Sl) : entsOf s = (ents s).map entOf := by
  induction s with
  | nil => rfl
  | cons o r ih =>
    cases o with
    | none => rw [ents_none, ← ih]; simp [entsOf]
    | some e => rw [ents_some, List.map_cons, ← ih]; simp [entsOf]
def key (n : ByteArray) : Lit := .string n.data.toList
theorem key_inj {a b : ByteArray} (h : key a = key b) : a = b := ba_ext (by injection h)
theorem key_lit (n : ByteArray) : WideAt.IsKeyLit (key n) := by simp [key, WideAt.IsKeyLit]
/-- The map reads as those entries. -/
structure HasS (D : DataW Unit) (es : List (ByteArray × Int)) : Prop where
  tidy : Tidy D
  has : ∀ n, Maps.has D (key n) = hasN (es.map Prod.fst) n
  at_ : ∀ n i, (n, i) ∈ es → ∀ z, D.atKey (key n) z = .lit (.int .i64 i)
  size : Maps.size D = es.length
theorem HasS.empty : HasS (.map []) [] := ⟨tidy_empty, fun _ => rfl, (fun _ _ h => by cases h), rfl⟩
theorem hasN_false {l : List ByteArray} {n : ByteArray} (h : n ∉ l) : hasN l n = false := by
  cases hh : hasN l n
  · rfl
  · exact absurd ((hasN_iff l n).1 hh) h
theorem HasS.put {D : DataW Unit} {a b : List (ByteArray × Int)} {n : ByteArray} {i : Int} (h : HasS D (a ++ b)) (hn : n ∉ (a ++ b).map Prod.fst) : HasS (D.put (key n) (.lit (.int .i64 i))) (a ++ (n, i) :: b) := by
  have hf : Maps.has D (key n) = false := by rw [h.has]; exact hasN_false hn
  refine ⟨h.tidy.put (key_lit n) _, fun m => ?_, fun m j hm z => ?_, ?_⟩
  · have e : hasN ((a ++ (n, i) :: b).map Prod.fst) m = (decide (n = m) || hasN ((a ++ b).map Prod.fst) m) := by
      simp only [hasN, List.map_append, List.map_cons, List.any_append, List.any_cons]
      cases decide (n = m) <;> simp
    rw [e]
    by_cases hm : n = m
    · subst hm; rw [has_put_same h.tidy.isMap (key_lit n)]; simp
    · rw [has_put_other (fun h => hm (key_inj h).symm), h.has, decide_eq_false hm, Bool.false_or]
  · by_cases hmn : n = m
    · subst hmn
      have : j = i := by
        rcases List.mem_append.1 hm with h1 | h1
        · exact absurd (by rw [List.map_append, List.mem_append]; exact .inl (List.mem_map_of_mem (f := Prod.fst) h1)) hn
        · rcases List.mem_cons.1 h1 with h2 | h2
          · injection h2
          · exact absurd (by rw [List.map_append, List.mem_append]; exact .inr (List.mem_map_of_mem (f := Prod.fst) h2)) hn
      subst this
      exact atKey_put_same h.tidy.isMap (key_lit n) _ _
    · rw [atKey_put_other (fun h => hmn (key_inj h).symm)]
      refine h.at_ m j ?_ z
      rcases List.mem_append.1 hm with h1 | h1
      · exact List.mem_append.2 (.inl h1)
      · rcases List.mem_cons.1 h1 with h2 | h2
        · injection h2 with h3; exact absurd h3.symm hmn
        · exact List.mem_append.2 (.inr h2)
  · rw [size_put h.tidy, hf, if_neg (by decide), h.size]; simp; omega
theorem HasS.del {D : DataW Unit} {a b : List (ByteArray × Int)} {n : ByteArray} {i : Int} (h : HasS D (a ++ (n, i) :: b)) (hn : n ∉ (a ++ b).map Prod.fst) : HasS (D.del (key n)) (a ++ b) := by
  have hf : Maps.has D (key n) = true := by rw [h.has, hasN_iff]; simp
  refine ⟨h.tidy.del _, fun m => ?_, fun m j hm z => ?_, ?_⟩
  · by_cases hm : n = m
    · subst hm; rw [has_del_same, hasN_false hn]
    · rw [has_del_other (fun h => hm (key_inj h).symm), h.has]
      simp only [hasN, List.map_append, List.map_cons, List.any_append, List.any_cons, decide_eq_false hm, Bool.false_or]
  · have hmn : n ≠ m := fun e => hn (by rw [e]; exact List.mem_map_of_mem (f := Prod.fst) hm)
    rw [atKey_del_other (fun h => hmn (key_inj h).symm)]
    refine h.at_ m j ?_ z
    rcases List.mem_append.1 hm with h1 | h1
    · exact List.mem_append.2 (.inl h1)
    · exact List.mem_append.2 (.inr (List.mem_cons_of_mem _ h1))
  · have := size_del h.tidy (k := key n)
    rw [hf, if_pos rfl, h.size] at this
    simp at this ⊢
    omega

/-- The directory ends with an entry. -/
def Tr (s : List Sl) : Prop := s = [] ∨ ∃ e, s[s.length - 1]? = some (some e)
theorem Tr.nil_of {s : List Sl} (h : Tr s) (he : ents s = []) : s = [] := by
  rcases h with h | ⟨e, h⟩
  · exact h
  · have := mem_ents.2 (List.mem_of_getElem? h)
    rw [he] at this; cases this
theorem tr_trimGo (t : List Sl) : ∀ m, m ≤ t.length → Tr (trimGo t m) ∧ ents (trimGo t m) = ents (t.take m) := by
  intro m
  induction m with
  | zero => intro _; exact ⟨.inl rfl, by simp [trimGo]⟩
  | succ m ih =>
    intro hm
    have hlt : m < t.length := by omega
    simp only [trimGo]
    cases hs : t[m] with
    | none =>
      rw [if_pos (by rw [List.getElem?_eq_getElem hlt, hs])]
      obtain ⟨h1, h2⟩ := ih (by omega)
      refine ⟨h1, ?_⟩
      rw [h2, List.take_succ_eq_append_getElem hlt, hs, ents_append]; simp [ents]
    | some e =>
      rw [if_neg (by rw [List.getElem?_eq_getElem hlt, hs]; simp)]
      refine ⟨.inr ⟨e, ?_⟩, rfl⟩
      rw [List.length_take, Nat.min_eq_left hm, List.getElem?_take, if_pos (by omega), Nat.add_sub_cancel, List.getElem?_eq_getElem hlt, hs]
theorem tr_trim (t : List Sl) : Tr (trim t) ∧ ents (trim t) = ents t := by
  have h := tr_trimGo t t.length (Nat.le_refl _)
  rw [List.take_of_length_le (Nat.le_refl _)] at h
  exact h
theorem tr_set {s : List Sl} (h : Tr s) {k : Nat} (hk : k < s.length) (e : ByteArray × Int) : Tr (s.set k (some e)) := by
  rcases h with rfl | ⟨x, hx⟩
  · simp at hk
  · right
    rw [List.length_set]
    by_cases hkl : k = s.length - 1
    · subst hkl; exact ⟨e, by rw [List.getElem?_set_self hk]⟩
    · exact ⟨x, by rw [List.getElem?_set_ne hkl]; exact hx⟩
theorem tr_more (s : List Sl) (e : ByteArray × Int) : Tr (s ++ [some e]) := .inr ⟨e, by simp⟩

/-- A name more. -/
theorem set_add {s : List Sl} (hg : Md.Good s) (ht : Tr s) (hl : s.length < 240) {n : ByteArray} {i : Int} (he : okE (n, i)) (hn : n ∉ names s) :
    ∃ s' a b, addA (bytesS s) n i = (bytesS s', 0) ∧ Md.Good s' ∧ Tr s' ∧ s'.length ≤ s.length + 1 ∧ ents s = a ++ b ∧ ents s' = a ++ (n, i) :: b := by
  rw [add_good hg, addS_free he hn]
  rcases freeGo_spec s 0 with ⟨j, hj, f1, f2⟩ | ⟨f1, f2⟩
  · rw [f1, Nat.zero_add]
    refine ⟨s.set j (some (n, i)), ents (s.take j), ents (s.drop (j + 1)), rfl, good_fill hg he hn hj f2, tr_set ht hj _, by rw [List.length_set]; omega, ?_, ?_⟩
    · conv => lhs; rw [← List.take_append_drop j s, List.drop_eq_getElem_cons hj, f2]
      rw [ents_append, ents_none]
    · rw [set_split s j _ hj, ents_append, ents_some]
  · rw [f1]
    refine ⟨s ++ [some (n, i)], ents s, [], ?_, good_more hg he hn hl, tr_more s _, by simp, by simp, by rw [ents_append]; rfl⟩
    unfold fillS
    simp only
    rw [if_pos hl]
theorem set_there {s : List Sl} (hg : Md.Good s) {n : ByteArray} {i : Int} (he : okE (n, i)) (hn : n ∈ names s) : addA (bytesS s) n i = ([], 3) := by
  rw [add_good hg]
  unfold addS
  rw [layA_right he.1 he.2.1 he.2.2, if_pos rfl]
  rcases place_cases n s with ⟨h1, h2, h3⟩ | ⟨j, i', hj, h1, h2, h3⟩
  · exact absurd hn h3
  · rw [if_pos (by omega)]
theorem set_bad {s : List Sl} (hg : Md.Good s) {n : ByteArray} {i : Int} (he : ¬ okE (n, i)) : ∃ E, addA (bytesS s) n i = ([], E) ∧ E ≠ 0 := by
  rw [add_good hg]
  unfold addS
  have h0 : (La.layA n i).2 ≠ 0 := fun h => he (by
    obtain ⟨k1, k2, k3, k4⟩ := layA_ok (show La.layA n i = ((La.layA n i).1, 0) from Prod.ext rfl h)
    exact ⟨k1, k2, k3⟩)
  rw [if_neg h0]
  exact ⟨_, rfl, h0⟩
theorem set_rm {s : List Sl} (hg : Md.Good s) {n : ByteArray} (hn : n ∈ names s) :
    ∃ s' a b i, removeA (bytesS s) n = (bytesS s', 0) ∧ Md.Good s' ∧ Tr s' ∧ s'.length ≤ s.length ∧ ents s = a ++ (n, i) :: b ∧ ents s' = a ++ b := by
  rw [remove_good hg]
  unfold removeS
  rcases place_cases n s with ⟨h1, h2, h3⟩ | ⟨j, i, hj, h1, h2, h3⟩
  · exact absurd hn h3
  · rw [if_pos (by omega), h1, Int.toNat_natCast]
    have hg2 := good_less hg j hj
    obtain ⟨t1, t2⟩ := trim_ok hg2.ok
    obtain ⟨t3, t4⟩ := tr_trim (s.set j none)
    rw [List.length_set] at t2
    refine ⟨trim (s.set j none), ents (s.take j), ents (s.drop (j + 1)), i, rfl, ⟨t1, by rw [names_ents, t4, ← names_ents]; exact hg2.apart, by have := hg.room; omega⟩, t3, t2, ?_, ?_⟩
    · conv => lhs; rw [← List.take_append_drop j s, List.drop_eq_getElem_cons hj, h2]
      rw [ents_append, ents_some]
    · rw [t4, set_split s j _ hj, ents_append, ents_none]
theorem set_rm_no {s : List Sl} (hg : Md.Good s) {n : ByteArray} (hn : n ∉ names s) : removeA (bytesS s) n = ([], 2) := by
  rw [remove_good hg]
  unfold removeS
  rcases place_cases n s with ⟨h1, h2, h3⟩ | ⟨j, i, hj, h1, h2, h3⟩
  · rw [if_neg (by omega)]
  · exact absurd (names_mem.2 ⟨i, by rw [← h2]; exact List.getElem_mem hj⟩) hn
/-- What is there is found. -/
theorem set_find {s : List Sl} (hg : Md.Good s) {n : ByteArray} {i : Int} (h : (n, i) ∈ ents s) : findA (bytesS s) n = (i, true) := by
  unfold findA
  rw [good_dir hg]
  simp only
  obtain ⟨k, hk, e⟩ := List.getElem_of_mem (mem_ents.1 h)
  have hp := place_in hg hk e
  rcases place_cases n s with ⟨h1, h2, h3⟩ | ⟨j, i', hj, h1, h2, h3⟩
  · omega
  · have : j = k := by omega
    subst this
    rw [e] at h2
    injection h2 with h4
    injection h4 with _ h5
    rw [h3, ← h5]; rfl
theorem set_all {s : List Sl} (hg : Md.Good s) : allA (bytesS s) = ((ents s).map entOf, 0) := by
  unfold allA; rw [good_dir hg, ← entsOf_ents]; rfl
theorem apart_mid {a b : List (ByteArray × Int)} {n : ByteArray} {i : Int} (h : ((a ++ (n, i) :: b).map Prod.fst).Nodup) : n ∉ (a ++ b).map Prod.fst := by
  rw [List.map_append, List.map_cons, List.nodup_append, List.nodup_cons] at h
  rw [List.map_append, List.mem_append, not_or]
  exact ⟨fun hm => h.2.2 n hm n (by simp) rfl, h.2.1.1⟩
end Go.Proofs.Ytinfjmdcmfpdiaa.St

/- EntrySet's acts: what they are, and how many are played. -/
namespace Go.Proofs.Ytinfjmdcmfpdiaa.St
open Go.RowKit Go.Proofs.Ytinfjmdcmfpdiaa.Rt Go.Proofs.Ytinfjmdcmfpdiaa.Md Go.Proofs.YtinfjmdcmfpdiaaW.PrintWords Go.Proofs.YtinfjmdcmfpdiaaW.PrintLast Go.Proofs.YtinfjmdcmfpdiaaW.PrintMore
set_option linter.unusedVariables false
set_option linter.unusedSimpArgs false

/-- Gone, name, number. -/
abbrev Ac := Bool × (ByteArray × Int)
def z : Ac := (false, (ByteArray.empty, 0))
def kA : Kd Ac := Kd.pair Kd.bool (Kd.pair Kd.string (Kd.int .i64))
theorem kA_open {w : World} {x : Ac} {cs : List Value} (h : kA.K w x cs) : cs = [.bool x.1, .string x.2.1, .int .i64 x.2.2] := by
  obtain ⟨c0, c1, rfl, h0, c2, c3, rfl, h1, h2⟩ := h
  rw [show c0 = [.bool x.1] from h0, show c2 = [.string x.2.1] from h1, show c3 = [.int .i64 x.2.2] from h2]
  rfl
theorem kA_mk (w : World) (x : Ac) : kA.K w x [.bool x.1, .string x.2.1, .int .i64 x.2.2] := ⟨[.bool x.1], _, rfl, rfl, [.string x.2.1], [.int .i64 x.2.2], rfl, rfl, rfl⟩
theorem at_A {w : World} {A : Option Addr} {n : Nat} {xs : List Ac} (h : Kd.C kA w A n xs) (k : Nat) (hk : k < xs.length) (h1 : k < n) : ∃ ad, A = some ad ∧ w.cell? (ad.add (k * 3)) = some (.bool (xs[k]).1) ∧ w.cell? ⟨(ad.add (k * 3)).block, (ad.add (k * 3)).off + 1, none⟩ = some (.string (xs[k]).2.1) ∧ w.cell? ⟨(ad.add (k * 3)).block, (ad.add (k * 3)).off + 2, none⟩ = some (.int .i64 (xs[k]).2.2) := by
  obtain ⟨ad, c, e, _, hK, hc0⟩ := Kd.C_get h z (k : Int) (by omega) (by omega)
  have hd : xs.getD (k : Int).toNat z = xs[k] := by rw [Int.toNat_natCast, List.getD_eq_getElem?_getD, List.getElem?_eq_getElem hk]; rfl
  rw [hd] at hK
  have hc : ∀ j u, c[j]? = some u → w.cell? (ad.add (k * 3 + j)) = some u := hc0
  obtain rfl := kA_open hK
  exact ⟨ad, e, hc 0 _ rfl, by rw [← add_field _ _ 1 (by omega)]; exact hc 1 _ rfl, by rw [← add_field _ _ 2 (by omega)]; exact hc 2 _ rfl⟩

/-- How many acts are played. -/
def aN : List Ac → Nat → Nat
  | [], _ => 0
  | x :: r, i => if 60 ≤ i ∨ 100 < x.2.1.size then 0 else aN r (i + 1) + 1
theorem aN_le : ∀ (l : List Ac) (i : Nat), aN l i ≤ l.length := by
  intro l
  induction l with
  | nil => intro i; simp [aN]
  | cons x r ih => intro i; unfold aN; split <;> simp; exact ih _
theorem aN_60 : ∀ (l : List Ac) (i : Nat), aN l i ≤ 60 - i := by
  intro l
  induction l with
  | nil => intro i; simp [aN]
  | cons x r ih =>
    intro i; unfold aN; split
    · simp
    · have := ih (i + 1); omega
theorem aN_small : ∀ (l : List Ac) (i : Nat), ∀ x ∈ l.take (aN l i), x.2.1.size ≤ 100 := by
  intro l
  induction l with
  | nil => intro i x hx; simp [aN] at hx
  | cons y r ih =>
    intro i x hx
    unfold aN at hx
    split at hx
    · simp at hx
    · rename_i h
      rw [List.take_succ_cons] at hx
      rcases List.mem_cons.1 hx with rfl | hx
      · omega
      · exact ih _ x hx
theorem aN_drop (l : List Ac) (k i : Nat) (h : k < l.length) : aN (l.drop k) i = if 60 ≤ i ∨ 100 < (l[k]).2.1.size then 0 else aN (l.drop (k + 1)) (i + 1) + 1 := by
  rw [List.drop_eq_getElem_cons h]; rfl
theorem C_takeA {α : Type} {d : Kd α} {w : World} {A : Option Addr} {n m : Nat} {xs : List α} (h : d.C w A n xs) (hm : m ≤ n) : d.C w A m (xs.take m) := by
  refine ⟨by rw [List.length_take, h.1]; omega, Nat.le_trans hm h.2.1, fun h0 => ?_⟩
  obtain ⟨ad, e, hc⟩ := h.2.2 (by omega)
  refine ⟨ad, e, fun j p hj => hc j p ?_⟩
  rw [List.getElem?_take] at hj
  split at hj
  · exact hj
  · cases hj

set_option maxHeartbeats 4000000 in
set_option maxRecDepth 100000 in
theorem acts_any (A0 : Option Addr) (c0 : Nat) (l0 : List Ac) (w : World) (hr0 : Kd.C kA w A0 l0.length l0) (hc0 : l0.length ≤ c0) :
    Calls Try.prog 28 #[.slice A0 l0.length c0] w fun e w' => e = .returned (.slice A0 (aN l0 0) c0) ∧ Drawn0 w w' := by
  have HR := Lib.hid hr0
  have hl : l0.length ≤ 9223372036854775807 := hr0.2.1
  clear hr0
  go_enter Try.func28, Try.ntmps28
  go_wp2_with fail
  go_loopw [6] (fun i wr => ∃ k : Nat, k ≤ l0.length ∧ i = .int .i64 k ∧ Drawn0 w wr ∧ Hid (aN l0 0 = k + aN (l0.drop k) k)) (fun i _ => l0.length - (intOf i).toNat)
  case atStart => exact ⟨0, Nat.zero_le _, rfl, Drawn0.refl _, Lib.hid (by simp)⟩
  case round =>
    obtain ⟨k, hk, rfl, hD, hS⟩ := hrel
    replace hD := Lib.hid hD
    by_cases hlt : k < l0.length
    · have c1 : decide ((k : Int) < (l0.length : Int)) = true := decide_eq_true (by omega)
      have p1 : 0 ≤ (k : Int) := by omega
      have q1 : (k : Int) < (l0.length : Int) := by omega
      have q2 : (k : Int) ≤ (l0.length : Int) := by omega
      have q3 : (k : Int) ≤ (c0 : Int) := by omega
      have hd := aN_drop l0 k k hlt
      by_cases h30 : 60 ≤ k
      · have c2 : decide ((k : Int) ≥ 60) = true := decide_eq_true (by omega)
        rw [if_pos (.inl h30)] at hd
        have hE : Hid (aN l0 0 = k) := Lib.hid (by rw [hS.out, hd]; rfl)
        clear hd hS
        go_wp2_with fail
        go_ret
        rw [hE.out]
        exact ⟨rfl, hD.out⟩
      · have c2 : decide ((k : Int) ≥ 60) = false := decide_eq_false (by omega)
        obtain ⟨ad, e101, hx0, hx, hx2⟩ := at_A (Kd.C_below HR.out hD.out.below) k hlt hlt
        cases e101
        clear hx0 hx2
        by_cases h100 : 100 < (l0[k]).2.1.size
        · have c3 : decide (((l0[k]).2.1.size : Int) > 100) = true := decide_eq_true (by omega)
          rw [if_pos (.inr h100)] at hd
          have hE : Hid (aN l0 0 = k) := Lib.hid (by rw [hS.out, hd]; rfl)
          clear hd hS
          go_wp2_with fail
          go_ret
          rw [hE.out]
          exact ⟨rfl, hD.out⟩
        · have c3 : decide (((l0[k]).2.1.size : Int) > 100) = false := decide_eq_false (by omega)
          rw [if_neg (by omega)] at hd
          have hE : Hid (aN l0 0 = (k + 1) + aN (l0.drop (k + 1)) (k + 1)) := Lib.hid (by rw [hS.out, hd]; omega)
          clear hd hS
          go_wp2_with fail
          exact ⟨⟨k + 1, by omega, by go_num, hD.out, hE⟩, by simp [intOf]; omega⟩
    · obtain rfl : k = l0.length := by omega
      have c1 : decide ((l0.length : Int) < (l0.length : Int)) = false := decide_eq_false (by omega)
      have hE : Hid (aN l0 0 = l0.length) := Lib.hid (by rw [hS.out, List.drop_length]; rfl)
      clear hS
      go_wp2_with fail
      go_ret
      rw [hE.out]
      exact ⟨rfl, hD.out⟩
/-- What 'acts' hands back, once. -/
theorem acts_t (A0 : Option Addr) (c0 : Nat) (l0 : List Ac) (hc0 : l0.length ≤ c0) (hw : ∀ x ∈ l0, (Lit.int .i64 x.2.2).wf = true) : ∃ t : List Ac, (∀ x ∈ t, x.2.1.size ≤ 100 ∧ (Lit.int .i64 x.2.2).wf = true) ∧ t.length ≤ 60 ∧ t.length ≤ c0 ∧ (∀ w, Kd.C kA w A0 l0.length l0 → Kd.C kA w A0 t.length t) ∧
    ∀ w, Kd.C kA w A0 l0.length l0 → Calls Try.prog 28 #[.slice A0 l0.length c0] w fun e w' => e = .returned (.slice A0 t.length c0) ∧ Drawn0 w w' := by
  have h1 := aN_le l0 0
  have h2 := aN_60 l0 0
  have h3 : (l0.take (aN l0 0)).length = aN l0 0 := by rw [List.length_take]; omega
  refine ⟨l0.take (aN l0 0), fun x hx => ⟨aN_small l0 0 x hx, hw x (List.mem_of_mem_take hx)⟩, by omega, by omega, ?_, ?_⟩
  · intro w h; rw [h3]; exact C_takeA h h1
  · intro w h; rw [h3]; exact acts_any A0 c0 l0 w h hc0
end Go.Proofs.Ytinfjmdcmfpdiaa.St

/- EntrySet: what stands between its acts. -/
namespace Go.Proofs.Ytinfjmdcmfpdiaa.St
open Go.RowKit Go.Maps Go.Proofs.Ytinfjmdcmfpdiaa.Rt Go.Proofs.Ytinfjmdcmfpdiaa.Md Go.Proofs.Ytinfjmdcmfpdiaa.Al Go.Proofs.Ytinfjmdcmfpdiaa.Pc Go.Proofs.Ytinfjmdcmfpdiaa.Fn Go.Proofs.Ytinfjmdcmfpdiaa.Nm Go.Proofs.Ytinfjmdcmfpdiaa.Lw Go.Proofs.YtinfjmdcmfpdiaaW.PrintWords Go.Proofs.YtinfjmdcmfpdiaaW.PrintLast Go.Proofs.YtinfjmdcmfpdiaaW.PrintMore
set_option linter.unusedVariables false
set_option linter.unusedSimpArgs false

theorem zeroI (w : World) : (zeroValue 3).run Try.prog w = .ok (.int .i64 0) w := by kernel_rfl
/-- What stands between two acts. -/
structure Be (w : World) (mb k : Nat) (s : List Sl) (D : DataW Unit) (v : Value) (W : World) : Prop where
  good : Md.Good s
  tr : Tr s
  len : s.length ≤ k
  has : HasS D (ents s)
  row : Kd.R (Kd.int .u8) 5 W w.heap.size (fun b => b ≠ mb) v (bytesS s)
  map : W.ownsMap Try.prog 9 (plainElem Try.prog 3) mb k D
  base : w.heap.size ≤ mb
  below : Below w.heap.size w W
theorem R_off {α : Type} {d : Kd α} {e : Nat} {W : World} {base b0 mb : Nat} {v : Value} {xs : List α} (h : Kd.R d e W base (fun _ => True) v xs) (hb : mb < base) (hB : b0 ≤ base) : Kd.R d e W b0 (fun b => b ≠ mb) v xs :=
  Kd.R_lower (Kd.R_mono (Kd.R_bound h) (fun k hk => by obtain ⟨_, h1, _⟩ := hk; omega)) hB
section
variable {w W W' : World} {mb k : Nat} {s s' : List Sl} {D : DataW Unit} {v v' : Value}
theorem Be.step (h : Be w mb k s D v W) (hb : Below W.heap.size W W') : Be w mb k s D v W' :=
  ⟨h.good, h.tr, h.len, h.has, Kd.R_below h.row hb, h.map.kept (grown_of_below hb none) (by simp), h.base, below_step h.below hb⟩
theorem Be.alloc (h : Be w mb k s D v W) (o : Obj) : Be w mb k s D v (W.alloc o) := h.step (below_alloc (Below.refl _ _) o)
theorem Be.drew (h : Be w mb k s D v W) : Be w mb k s D v W.drew := h.step (below_drew1 (Below.refl _ _))
theorem Be.more (h : Be w mb k s D v W) : Be w mb (k + 1) s D v W := ⟨h.good, h.tr, by have := h.len; omega, h.has, h.row, h.map.mono (by omega), h.base, h.below⟩
theorem Be.lt (h : Be w mb k s D v W) : mb < W.heap.size := h.map.lt
theorem Be.look (h : Be w mb k s D v W) {n : ByteArray} (hn : n.size ≤ maxLen) :
    ∃ a : Int, (Instr.lookup 48 (.map (some mb)) (.string n) true).run Try.prog W = .ok (.tuple #[.int .i64 a, .bool (hasN (names s) n)]) W ∧ (∀ i, (n, i) ∈ ents s → a = i) ∧ a ≤ 64 := by
  obtain ⟨x, ps, hrun, hv⟩ := h.map.look_ok (Maps.string_keyed Try.underlying9) Try.underlying48 (zeroI W) (plainElem_int Try.underlying3 (a := 0) (by decide)) (WideMaps.keyOf_string_mk Try.underlying9 hn)
  obtain ⟨a, rfl, hz, hw⟩ := plainElem_int_inv Try.underlying3 hv
  have e1 : Maps.has D (.string n.data.toList) = hasN (names s) n := by rw [names_ents]; exact h.has.has n
  rw [e1] at hrun
  have e2 : D.atKey (key n) (.lit (.int .i64 0)) = .lit (.int .i64 a) := (Prod.ext_iff.1 hz).1
  have e3 : ∀ i, (n, i) ∈ ents s → a = i := fun i hi => by
    rw [h.has.at_ n i hi] at e2
    simp only [DataW.lit.injEq, Lit.int.injEq, true_and] at e2
    exact e2.symm
  refine ⟨a, hrun, e3, ?_⟩
  by_cases hm : n ∈ names s
  · obtain ⟨i, hi⟩ := names_mem.1 hm
    have h64 : i < 64 := (h.good.ok _ hi).2.2
    rw [e3 i (mem_ents.2 hi)]
    omega
  · rw [atKey_of_not_has (by rw [h.has.has, ← names_ents]; exact hasN_false hm)] at e2
    simp only [DataW.lit.injEq, Lit.int.injEq, true_and] at e2
    omega
theorem Be.len_run (h : Be w mb k s D v W) (ty : TypeId) : (Builtin.len_ #[48] ty #[.map (some mb)]).run Try.prog W = .ok (.int .i64 ((ents s).length : Int)) W := by
  rw [← h.has.size]; exact h.map.len Try.underlying48 ty
theorem Be.lost {W1 : World} {base : Nat} {a b : List (ByteArray × Int)} {n : ByteArray} {i : Int} (h : Be w mb k s D v W1) (ho : Kd.R (Kd.int .u8) 5 W1 base (fun _ => True) v' (bytesS s')) (hb1 : mb < base) (hb2 : w.heap.size ≤ base) (hg : Md.Good s') (ht : Tr s') (hl : s'.length ≤ s.length)
    (e1 : ents s = a ++ (n, i) :: b) (e2 : ents s' = a ++ b) (hM : W'.ownsMap Try.prog 9 (plainElem Try.prog 3) mb k (D.del (.string n.data.toList))) (hT : W1.mapTurned W' mb) : Be w mb (k + 1) s' (D.del (.string n.data.toList)) v' W' := by
  have hap := h.good.apart
  rw [names_ents, e1] at hap
  refine ⟨hg, ht, by have := h.len; omega, ?_, Kd.R_grown (R_off ho hb1 hb2) hT.grown (fun b hb he => hb (by injection he)), hM.mono (by omega), h.base, ?_⟩
  · have := h.has
    rw [e1] at this
    rw [e2]
    exact this.del (apart_mid hap)
  · exact pw_below_grown h.below _ h.below.size hT.grown (fun b hb => by injection hb with hb; have := h.base; omega)
theorem Be.won {W1 : World} {base : Nat} {a b : List (ByteArray × Int)} {n : ByteArray} {i : Int} (h : Be w mb k s D v W1) (ho : Kd.R (Kd.int .u8) 5 W1 base (fun _ => True) v' (bytesS s')) (hb1 : mb < base) (hb2 : w.heap.size ≤ base) (hg : Md.Good s') (ht : Tr s') (hl : s'.length ≤ s.length + 1)
    (e1 : ents s = a ++ b) (e2 : ents s' = a ++ (n, i) :: b) (hM : W'.ownsMap Try.prog 9 (plainElem Try.prog 3) mb (k + 1) (D.put (.string n.data.toList) (.lit (.int .i64 i)))) (hT : W1.grownBy W' (some mb)) : Be w mb (k + 1) s' (D.put (.string n.data.toList) (.lit (.int .i64 i))) v' W' := by
  have hap := hg.apart
  rw [names_ents, e2] at hap
  refine ⟨hg, ht, by have := h.len; omega, ?_, Kd.R_grown (R_off ho hb1 hb2) hT (fun b hb he => hb (by injection he)), hM, h.base, ?_⟩
  · have := h.has
    rw [e1] at this
    rw [e2]
    exact this.put (apart_mid hap)
  · exact pw_below_grown h.below _ h.below.size hT (fun b hb => by injection hb with hb; have := h.base; omega)
end
theorem at_L {w : World} {A : Option Addr} {n : Nat} {E : List (ByteArray × Int)} {L : List D.S23} (hL : L = E.map entOf) (h : Kd.C D.k23 w A n L) (k : Nat) (hk : k < L.length) (h1 : k < n) : ∃ ad nm i, A = some ad ∧ (nm, i) ∈ E ∧ w.cell? (ad.add (k * 2)) = some (.string nm) ∧ w.cell? ⟨(ad.add (k * 2)).block, (ad.add (k * 2)).off + 1, none⟩ = some (.int .i64 i) := by
  subst hL
  obtain ⟨ad, e, h2, h3⟩ := D.at_T23 h (k : Int) (by omega) (by omega)
  have hk2 : k < E.length := by simpa using hk
  have hd : D.rd_T23 (E.map entOf) (k : Int) = entOf E[k] := by
    unfold D.rd_T23
    rw [Int.toNat_natCast, List.getD_eq_getElem?_getD, List.getElem?_map, List.getElem?_eq_getElem hk2]; rfl
  rw [hd] at h2 h3
  exact ⟨ad, E[k].1, E[k].2, e, List.getElem_mem hk2, h2, h3⟩
theorem all_eq (A0 : Option Addr) (c0 : Nat) (l0 : List Int) (L : List D.S23) (w : World) (hb : Bytes l0) (hr0 : Kd.C (Kd.int .u8) w A0 l0.length l0) (hc0 : l0.length ≤ c0) (h : allA l0 = (L, 0)) :
    Calls Try.prog 23 #[.slice A0 l0.length c0] w fun e w' => ∃ v : Value, e = .returned (.tuple #[v, .int .i64 0]) ∧ Kd.R D.k23 23 w' w.heap.size (fun _ => True) v L ∧ Below w.heap.size w w' := by
  have := Al.all_any A0 c0 l0 w hb hr0 hc0
  rw [h] at this
  exact this
theorem find_eq (A0 : Option Addr) (c0 : Nat) (l0 : List Int) (n : ByteArray) (i : Int) (f : Bool) (w : World) (hn : n.size ≤ maxLen) (hb : Bytes l0) (hr0 : Kd.C (Kd.int .u8) w A0 l0.length l0) (hc0 : l0.length ≤ c0) (h : findA l0 n = (i, f)) :
    Calls Try.prog 25 #[.slice A0 l0.length c0, .string n] w fun e w' => e = .returned (.tuple #[.int .i64 i, .bool f]) ∧ Below w.heap.size w w' := by
  have := Fn.find_any A0 c0 l0 n w hn hb hr0 hc0
  rw [h] at this
  exact this
theorem right_eq (n : ByteArray) {r : Bool} (h : rightB n.data.toList = r) : P.entry_Right.f n = some r := by unfold P.entry_Right.f; rw [h]
end Go.Proofs.Ytinfjmdcmfpdiaa.St
