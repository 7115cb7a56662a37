/- The statements' 'some', and PathJoins: walks and plain law. -/
import Derived.Test.YtljddpnnfdaplaaPlC
namespace Go.Proofs.Ytljddpnnfdaplaa.Pl
open Go.RowKit Go.Proofs.Ytljddpnnfdaplaa.Rt Go.Proofs.Ytljddpnnfdaplaa.Pa Go.Proofs.Ytljddpnnfdaplaa.Jo Go.Proofs.YtljddpnnfdaplaaW.PrintWords Go.Proofs.YtljddpnnfdaplaaW.PrintLast Go.Proofs.YtljddpnnfdaplaaW.PrintMore
set_option linter.unusedVariables false
set_option linter.unusedSimpArgs false

/-- How many texts 'some' leaves. -/
def sN : List ByteArray → Nat → Nat
  | [], _ => 0
  | x :: r, i => if 30 ≤ i ∨ 100 < x.size then 0 else sN r (i + 1) + 1
theorem sN_le : ∀ (l : List ByteArray) (i : Nat), sN l i ≤ l.length := by
  intro l
  induction l with
  | nil => intro i; simp [sN]
  | cons x r ih => intro i; unfold sN; split <;> simp; exact ih _
theorem sN_30 : ∀ (l : List ByteArray) (i : Nat), sN l i ≤ 30 - i := by
  intro l
  induction l with
  | nil => intro i; simp [sN]
  | cons x r ih =>
    intro i; unfold sN; split
    · simp
    · have := ih (i + 1); omega
theorem sN_small : ∀ (l : List ByteArray) (i : Nat), ∀ x ∈ l.take (sN l i), x.size ≤ 100 := by
  intro l
  induction l with
  | nil => intro i x hx; simp [sN] at hx
  | cons y r ih =>
    intro i x hx
    unfold sN at hx
    split at hx
    · simp at hx
    · rename_i h
      rw [List.take_succ_cons] at hx
      rcases List.mem_cons.1 hx with rfl | hx
      · omega
      · exact ih _ x hx
theorem sN_drop (l : List ByteArray) (k i : Nat) (h : k < l.length) : sN (l.drop k) i = if 30 ≤ i ∨ 100 < (l[k]).size then 0 else sN (l.drop (k + 1)) (i + 1) + 1 := by
  rw [List.drop_eq_getElem_cons h]; rfl
theorem C_take {α : Type} {d : Kd α} {w : World} {A : Option Addr} {n m : Nat} {xs : List α} (h : d.C w A n xs) (hm : m ≤ n) : d.C w A m (xs.take m) := by
  refine ⟨by rw [List.length_take, h.1]; omega, Nat.le_trans hm h.2.1, fun h0 => ?_⟩
  obtain ⟨ad, e, hc⟩ := h.2.2 (by omega)
  refine ⟨ad, e, fun j p hj => hc j p ?_⟩
  rw [List.getElem?_take] at hj
  split at hj
  · exact hj
  · cases hj

set_option maxHeartbeats 4000000 in
set_option maxRecDepth 100000 in
theorem some_any (A0 : Option Addr) (c0 : Nat) (l0 : List ByteArray) (w : World) (hr0 : Kd.C Kd.string w A0 l0.length l0) (hc0 : l0.length ≤ c0) :
    Calls Try.prog 17 #[.slice A0 l0.length c0] w fun e w' => e = .returned (.slice A0 (sN l0 0) c0) ∧ Drawn0 w w' := by
  have HR := Lib.hid hr0
  have hl : l0.length ≤ 9223372036854775807 := hr0.2.1
  clear hr0
  go_enter Try.func17, Try.ntmps17
  go_wp2_with fail
  go_loopw [6] (fun i wr => ∃ k : Nat, k ≤ l0.length ∧ i = .int .i64 k ∧ Drawn0 w wr ∧ Hid (sN l0 0 = k + sN (l0.drop k) k)) (fun i _ => l0.length - (intOf i).toNat)
  case atStart => exact ⟨0, Nat.zero_le _, rfl, Drawn0.refl _, Lib.hid (by simp)⟩
  case round =>
    obtain ⟨k, hk, rfl, hD, hS⟩ := hrel
    replace hD := Lib.hid hD
    by_cases hlt : k < l0.length
    · have c1 : decide ((k : Int) < (l0.length : Int)) = true := decide_eq_true (by omega)
      have p1 : 0 ≤ (k : Int) := by omega
      have q1 : (k : Int) < (l0.length : Int) := by omega
      have q2 : (k : Int) ≤ (l0.length : Int) := by omega
      have q3 : (k : Int) ≤ (c0 : Int) := by omega
      have hd := sN_drop l0 k k hlt
      by_cases h30 : 30 ≤ k
      · have c2 : decide ((k : Int) ≥ 30) = true := decide_eq_true (by omega)
        rw [if_pos (.inl h30)] at hd
        have hE : Hid (sN l0 0 = k) := Lib.hid (by rw [hS.out, hd]; rfl)
        clear hd hS
        go_wp2_with fail
        go_ret
        rw [hE.out]
        exact ⟨rfl, hD.out⟩
      · have c2 : decide ((k : Int) ≥ 30) = false := decide_eq_false (by omega)
        obtain ⟨ad, e101, hx⟩ := Kd.at_string (Kd.C_below HR.out hD.out.below) (k : Int) p1 q1
        cases e101
        have e2 : rdOf ByteArray.empty l0 (k : Int) = l0[k] := by simp [rdOf, hlt]
        rw [e2] at hx
        have hx : wr.cell? (ad.add k) = some (.string l0[k]) := by simpa using hx
        by_cases h100 : 100 < (l0[k]).size
        · have c3 : decide (((l0[k]).size : Int) > 100) = true := decide_eq_true (by omega)
          rw [if_pos (.inr h100)] at hd
          have hE : Hid (sN l0 0 = k) := Lib.hid (by rw [hS.out, hd]; rfl)
          clear hd hS
          go_wp2_with fail
          go_ret
          rw [hE.out]
          exact ⟨rfl, hD.out⟩
        · have c3 : decide (((l0[k]).size : Int) > 100) = false := decide_eq_false (by omega)
          rw [if_neg (by omega)] at hd
          have hE : Hid (sN l0 0 = (k + 1) + sN (l0.drop (k + 1)) (k + 1)) := Lib.hid (by rw [hS.out, hd]; omega)
          clear hd hS
          go_wp2_with fail
          exact ⟨⟨k + 1, by omega, by go_num, hD.out, hE⟩, by simp [intOf]; omega⟩
    · obtain rfl : k = l0.length := by omega
      have c1 : decide ((l0.length : Int) < (l0.length : Int)) = false := decide_eq_false (by omega)
      have hE : Hid (sN l0 0 = l0.length) := Lib.hid (by rw [hS.out, List.drop_length]; rfl)
      clear hS
      go_wp2_with fail
      go_ret
      rw [hE.out]
      exact ⟨rfl, hD.out⟩

theorem joinB_small (l : List ByteArray) (h : ∀ x ∈ l, x.size ≤ 100) : (joinB l).length ≤ 101 * l.length := by
  induction l with
  | nil => simp [joinB_nil]
  | cons x l ih =>
    have h1 := h x (by simp)
    have h2 := ih (fun y hy => h y (by simp [hy]))
    have h3 := size_bs x
    rw [joinB_cons, List.length_cons, List.length_append, List.length_cons]
    omega
/-- What 'some' hands back, once. -/
theorem some_t (A0 : Option Addr) (c0 : Nat) (l0 : List ByteArray) (hc0 : l0.length ≤ c0) : ∃ t : List ByteArray, (joinB t).length ≤ 3030 ∧ t.length ≤ 30 ∧ t.length ≤ c0 ∧ (∀ w, Kd.C Kd.string w A0 l0.length l0 → Kd.C Kd.string w A0 t.length t) ∧
    ∀ w, Kd.C Kd.string w A0 l0.length l0 → Calls Try.prog 17 #[.slice A0 l0.length c0] w fun e w' => e = .returned (.slice A0 t.length c0) ∧ Drawn0 w w' := by
  have h1 := sN_le l0 0
  have h2 := sN_30 l0 0
  have h3 : (l0.take (sN l0 0)).length = sN l0 0 := by rw [List.length_take]; omega
  refine ⟨l0.take (sN l0 0), ?_, by omega, by omega, ?_, ?_⟩
  · have := joinB_small _ (sN_small l0 0); omega
  · intro w h; rw [h3]; exact C_take h h1
  · intro w h; rw [h3]; exact some_any A0 c0 l0 w h hc0

set_option maxHeartbeats 4000000 in
set_option maxRecDepth 100000 in
theorem joins_any (A0 : Option Addr) (c0 : Nat) (l0 : List ByteArray) (w : World) (hr0 : Kd.C Kd.string w A0 l0.length l0) (hc0 : l0.length ≤ c0) :
    Calls Try.prog 4 #[.slice A0 l0.length c0] w fun e w' => e = .returned (.bool true) ∧ Below w.heap.size w w' := by
  obtain ⟨t, ht1, ht2, ht3, htC, htS⟩ := some_t A0 c0 l0 hc0
  have HR := Lib.hid hr0
  have HC := Lib.hid htC
  have HS := Lib.hid htS
  clear htC htS hr0
  obtain ⟨jx, jf, hj⟩ : ∃ jx jf, jn t = (jx, jf) := ⟨_, _, rfl⟩
  have hA : joinA t = (jx, jf) := (joinA_eq t).trans hj
  have HA : Hid (P.path_Join.f t = some (jx, jf)) := Lib.hid ((if_pos (by omega)).trans (congrArg some hA))
  have HJ : Hid (P.moatref13_Join.f 40 t = some (jx, jf)) := Lib.hid ((ref_join t 40 (by omega)).trans (congrArg some hj))
  clear hj hA
  have HT : Hid (P.moatlaw13_shown.f 5 = some true) := Lib.hid (shown_f 5 (by omega))
  go_enter Try.func4, Try.ntmps4
  go_wp2_with fail
  refine (HS.out _ HR.out).mono ?_
  rintro e w1 ⟨rfl, hD⟩
  have hB := Lib.hid hD.below
  clear hD
  go_wp2_with fail
  refine (P.path_Join.calls A0 c0 t jx jf _ (HC.out _ (Kd.C_below HR.out hB.out)) ht3 HA.out).mono ?_
  rintro e w2 ⟨rfl, hb⟩
  replace hB := Lib.hid (below_step hB.out hb)
  clear hb
  go_wp2_with fail
  refine (HS.out _ (Kd.C_below HR.out hB.out)).mono ?_
  rintro e w3 ⟨rfl, hD⟩
  replace hB := Lib.hid (below_step hB.out hD.below)
  clear hD
  go_wp2_with fail
  refine (P.moatref13_Join.calls 40 A0 c0 t jx jf _ (HC.out _ (Kd.C_below HR.out hB.out)) ht3 HJ.out).mono ?_
  rintro e w4 ⟨rfl, hD⟩
  replace hB := Lib.hid (below_step hB.out hD.below)
  clear hD
  go_wp2_with fail
  refine (P.moatlaw13_shown.calls 5 true _ HT.out).mono ?_
  rintro e w5 ⟨rfl, hb⟩
  replace hB := Lib.hid (below_step hB.out hb)
  clear hb
  go_wp2_with fail
  go_ret
  exact ⟨by simp, hB.out⟩
end Go.Proofs.Ytljddpnnfdaplaa.Pl
