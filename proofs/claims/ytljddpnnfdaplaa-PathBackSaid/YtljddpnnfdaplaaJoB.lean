/- path.Parse and path.Join: their contracts, every text and every row of texts within the machine's bounds. -/
import Derived.Test.YtljddpnnfdaplaaPaA
import Derived.Test.YtljddpnnfdaplaaJoA
import Derived.Test.YtljddpnnfdaplaaEqA
namespace Go.Proofs.Ytljddpnnfdaplaa.Jo
open Go.RowKit Go.Proofs.Ytljddpnnfdaplaa.Rt Go.Proofs.Ytljddpnnfdaplaa.Pa Go.Proofs.YtljddpnnfdaplaaW.PrintWords Go.Proofs.YtljddpnnfdaplaaW.PrintLast Go.Proofs.YtljddpnnfdaplaaW.PrintMore
set_option linter.unusedVariables false
set_option linter.unusedSimpArgs false

set_option maxHeartbeats 1000000 in
set_option maxRecDepth 100000 in
theorem parse_root (s : ByteArray) (he : s.toList = [47]) (w : World) :
    Calls Try.prog 9 #[.string s] w fun e w' => ∃ v0_ : Value, e = .returned (.tuple #[v0_, .int .i64 0]) ∧ Kd.R Kd.string 9 w' w.heap.size (fun _ => True) v0_ [] ∧ Below w.heap.size w w' := by
  have he' : (s.toList == [47]) = true := beq_iff_eq.2 he
  clear he
  go_enter Try.func9, Try.ntmps9
  go_wp2_with fail
  refine wp_scope_many (fun l => if l = 0 then findLabel _ l else none) (fun l a w1 => l = 0 ∧ w1 = w ∧ a = { tmps := List.toArray (Value.string s :: undef :: Value.slice none 0 0 :: Value.int .i64 0 :: Value.slice none 0 0 :: Value.int .i64 0 :: Value.int .i64 0 :: Value.string s :: Value.bool true :: List.replicate 48 undef), defers := [] }) (fun _ _ _ => 0) (fun l r h => by split at h <;> first | exact h | cases h) ?_ ?_ ?_
  · rintro l a w1 ⟨rfl, _⟩
    rfl
  · go_wp2_with fail
    apply wp_goto
    exact ⟨rfl, rfl, rfl⟩
  · rintro l r a w1 hr ⟨rfl, rfl, rfl⟩
    injection hr with hr
    subst hr
    simp only [List.replicate_succ, List.replicate_zero]
    go_wp2_with fail
    rw [jumps_ret]
    go_ret2
    exact ⟨_, rfl, Kd.R_nil Kd.string _ _ _ _, Below.refl _ _⟩

theorem parse_calls (s : ByteArray) (hs : s.size ≤ 140737488351232) (w : World) :
    Calls Try.prog 9 #[.string s] w fun e w' => ∃ v0_ : Value, e = .returned (.tuple #[v0_, .int .i64 (ans (parseO s.data.toList)).2]) ∧ Kd.R Kd.string 9 w' w.heap.size (fun _ => True) v0_ (ans (parseO s.data.toList)).1 ∧ Below w.heap.size w w' := by
  unfold parseO
  by_cases h : s.data.toList = [47]
  · rw [if_pos h]
    exact parse_root s (by rw [ByteArray.toList_eq]; exact h) w
  · rw [if_neg h]
    exact parse_any s hs (by rw [ByteArray.toList_eq]; exact h) w

def joinB (l : List ByteArray) : List UInt8 := l.flatMap fun n => 47 :: n.data.toList
def joinA (l : List ByteArray) : ByteArray × Int := if l = [] then (ba [47], 0) else if parseO (joinB l) = some l then (ba (joinB l), 0) else (ba [], 130)

theorem joinB_take (l : List ByteArray) (k : Nat) (h : k < l.length) : Lib.byteCells (joinB (l.take (k + 1))) = Lib.byteCells (joinB (l.take k)) ++ [.int .u8 47] ++ Lib.strCells l[k] := by
  rw [List.take_succ_eq_append_getElem h]
  unfold joinB
  rw [List.flatMap_append]
  simp [Lib.byteCells, Lib.strCells]
theorem joinB_take_le (l : List ByteArray) (k : Nat) : (joinB (l.take k)).length ≤ (joinB l).length := by
  conv => rhs; rw [← List.take_append_drop k l]
  unfold joinB
  rw [List.flatMap_append, List.length_append]
  omega
theorem byteCells_length (l : List UInt8) : (Lib.byteCells l).length = l.length := by simp [Lib.byteCells]

/-- What a round of Join's loop keeps. -/
structure JL (l : List ByteArray) (w : World) (k : Nat) (wr : World) : Prop where
  bld : Lib.IsBuilder 42 5 w.heap.size w.heap.size (Lib.byteCells (joinB (l.take k))) wr
  bel : Below w.heap.size w wr
theorem JL.next {l : List ByteArray} {w : World} {k : Nat} {wr w2 w3 : World} (h : JL l w k wr) (hk : k < l.length) (h2 : Below w.heap.size wr w2) (h3 : Below w.heap.size w2 w3)
    (hb : Lib.BuilderAt 42 5 w.heap.size w.heap.size (.pointer (some ⟨w.heap.size, 0, none⟩)) (Lib.byteCells (joinB (l.take k)) ++ [.int .u8 47] ++ Lib.strCells l[k]) w3) : JL l w (k + 1) w3 :=
  ⟨by rw [joinB_take l k hk]; exact .inr hb, (h.bel.trans h2).trans h3⟩

set_option maxHeartbeats 3000000 in
set_option maxRecDepth 100000 in
theorem join_some (A0 : Option Addr) (c0 : Nat) (l0 : List ByteArray) (w : World) (hr0 : Kd.C Kd.string w A0 l0.length l0) (hc0 : l0.length ≤ c0) (hne : l0 ≠ []) (hs : (joinB l0).length ≤ 140737488351232) :
    Calls Try.prog 16 #[.slice A0 l0.length c0] w fun e w' => e = .returned (.tuple #[.string (joinA l0).1, .int .i64 (joinA l0).2]) ∧ Below w.heap.size w w' := by
  obtain ⟨rr, hrr⟩ : ∃ rr, rr = joinA l0 := ⟨_, rfl⟩
  rw [← hrr]
  have hrr' := Lib.hid hrr
  clear hrr
  have hne' : ((l0.length : Int) == 0) = false := beq_eq_false_iff_ne.2 (by have := List.length_pos_iff.2 hne; omega)
  replace hne := Lib.hid hne
  have HR := Lib.hid hr0
  have hl : l0.length ≤ 9223372036854775807 := hr0.2.1
  clear hr0
  go_enter Try.func16, Try.ntmps16
  go_wp2_with fail
  have HL0 : Hid (JL l0 w 0 (w.alloc (.cells #[.pointer none, .slice none 0 0] 42))) := Lib.hid ⟨Lib.fresh_isBuilder _ _ _, below_alloc (Below.refl _ _) _⟩
  go_loopw [15] (fun i wr => ∃ k : Nat, k ≤ l0.length ∧ i = .int .i64 k ∧ JL l0 w k wr) (fun i _ => l0.length - (intOf i).toNat)
  case atStart => exact ⟨0, Nat.zero_le _, rfl, HL0.out⟩
  case round =>
    obtain ⟨k, hk, rfl, hL⟩ := hrel
    replace hL := Lib.hid hL
    by_cases hlt : k < l0.length
    · have c1 : decide ((k : Int) < (l0.length : Int)) = true := decide_eq_true (by omega)
      have p1 : 0 ≤ (k : Int) := by omega
      have q1 : (k : Int) < (l0.length : Int) := by omega
      obtain ⟨ad, e101, hx⟩ := Kd.at_string (Kd.C_below HR.out hL.out.bel) (k : Int) p1 q1
      cases e101
      have e2 : rdOf ByteArray.empty l0 (k : Int) = l0[k] := by simp [rdOf, hlt]
      rw [e2] at hx
      have hx : wr.cell? (ad.add k) = some (.string l0[k]) := by simpa using hx
      have hlen : (joinB (l0.take k)).length + 1 + l0[k].size ≤ 140737488351232 := by
        have h1 := congrArg List.length (joinB_take l0 k hlt)
        rw [List.length_append, List.length_append, byteCells_length, byteCells_length, Lib.strCells_length, List.length_singleton] at h1
        have h2 := joinB_take_le l0 (k + 1)
        omega
      go_wp2_with fail
      refine (WriteByte w.heap.size w.heap.size _ 47 wr hL.out.bld (by rw [byteCells_length]; omega) hL.out.bel.size).mono ?_
      rintro e w2 ⟨rfl, hb2, hB2⟩
      replace hb2 := Lib.hid hb2
      replace hB2 := Lib.hid hB2
      go_wp2_with fail
      refine (WriteString w.heap.size w.heap.size _ l0[k] w2 (.inr hb2.out) (by rw [List.length_append, byteCells_length, List.length_singleton]; omega) (hL.out.bel.trans hB2.out).size).mono ?_
      rintro e w3 ⟨rfl, hb3, hB3⟩
      have hN := Lib.hid (hL.out.next hlt hB2.out hB3 hb3)
      clear hb3 hB3
      go_wp2_with fail
      go_roundw
      case rel => exact ⟨k + 1, by omega, by go_num, hN.out⟩
      case measure => simp [intOf]; omega
    · obtain rfl : k = l0.length := by omega
      have c1 : decide ((l0.length : Int) < (l0.length : Int)) = false := decide_eq_false (by omega)
      have hbld := hL.out.bld
      rw [List.take_length] at hbld
      replace hbld := Lib.hid hbld
      obtain ⟨s, hsd⟩ : ∃ s : ByteArray, s = ba (joinB l0) := ⟨_, rfl⟩
      have hsz : s.size ≤ 140737488351232 := by rw [hsd]; exact hs
      replace hsd := Lib.hid hsd
      have hst : Hid (Calls Try.prog 24 #[.pointer (some ⟨w.heap.size, 0, none⟩)] wr fun e w' => e = .returned (.string s) ∧ Below w.heap.size wr w') := Lib.hid (by rw [hsd.out]; exact Try.Builder_String_any w.heap.size w.heap.size (joinB l0) wr hbld.out hL.out.bel.size)
      go_wp2_with fail
      refine hst.out.mono ?_
      rintro e w2 ⟨rfl, hB2⟩
      have hB2 := Lib.hid (hL.out.bel.trans hB2)
      clear hbld hst hL
      go_wp2_with fail
      cases hp : parseO (joinB l0) with
      | none =>
        have hP := parse_calls s hsz w2
        rw [hsd.out, ba_toList, hp, ← hsd.out] at hP
        refine hP.mono ?_
        clear hP
        rintro e w3 ⟨v, rfl, hO, hB3⟩
        have hB3 := Lib.hid (below_step hB2.out hB3)
        have hR : Hid (rr = (ba [], 130)) := Lib.hid (by rw [hrr'.out]; unfold joinA; rw [if_neg hne.out, hp, if_neg (by simp)])
        clear hp hO
        simp only [ans]
        go_wp2_with fail
        go_ret2
        rw [hR.out]
        exact ⟨rfl, hB3.out⟩
      | some m =>
        have hP := parse_calls s hsz w2
        rw [hsd.out, ba_toList, hp, ← hsd.out] at hP
        refine hP.mono ?_
        clear hP
        rintro e w3 ⟨v, rfl, hO, hB3⟩
        obtain ⟨A, c, rfl, hc, hC⟩ := Kd.R_reads hO
        have hB3 := Lib.hid (below_step hB2.out hB3)
        replace hC := Lib.hid hC
        have hR : Hid (rr = if m = l0 then (s, 0) else (ba [], 130)) := Lib.hid (by rw [hrr'.out, hsd.out]; unfold joinA; rw [if_neg hne.out, hp]; simp)
        clear hp hO
        simp only [ans] at hC hc ⊢
        go_wp2_with fail
        refine (Eq.equal_any A c m A0 c0 l0 w3 hC.out hc (Kd.C_below HR.out hB3.out) hc0).mono ?_
        rintro e w4 ⟨rfl, hD⟩
        have hB4 := Lib.hid (below_step hB3.out hD.below)
        clear hD
        by_cases hm : m = l0
        · rw [decide_eq_true hm]
          replace hm := Lib.hid hm
          go_wp2_with fail
          go_ret2
          rw [hR.out, if_pos hm.out]
          exact ⟨rfl, hB4.out⟩
        · rw [decide_eq_false hm]
          replace hm := Lib.hid hm
          go_wp2_with fail
          go_ret2
          rw [hR.out, if_neg hm.out]
          exact ⟨rfl, hB4.out⟩

set_option maxHeartbeats 1000000 in
set_option maxRecDepth 100000 in
theorem join_none (A0 : Option Addr) (c0 : Nat) (w : World) :
    Calls Try.prog 16 #[.slice A0 0 c0] w fun e w' => e = .returned (.tuple #[.string (joinA []).1, .int .i64 (joinA []).2]) ∧ Below w.heap.size w w' := by
  go_enter Try.func16, Try.ntmps16
  go_wp2_with fail
  go_ret2
  exact ⟨rfl, Below.refl _ _⟩

theorem join_calls (A0 : Option Addr) (c0 : Nat) (l0 : List ByteArray) (w : World) (hr0 : Kd.C Kd.string w A0 l0.length l0) (hc0 : l0.length ≤ c0) (hs : (joinB l0).length ≤ 140737488351232) :
    Calls Try.prog 16 #[.slice A0 l0.length c0] w fun e w' => e = .returned (.tuple #[.string (joinA l0).1, .int .i64 (joinA l0).2]) ∧ Below w.heap.size w w' := by
  by_cases h : l0 = []
  · subst h; exact join_none A0 c0 w
  · exact join_some A0 c0 l0 w hr0 hc0 h hs

/-! The form the printer reads. -/
def path_Parse.f (l0 : ByteArray) : Option (List ByteArray × Int) := if l0.size ≤ 140737488351232 then some (ans (parseO l0.data.toList)) else none
theorem path_Parse.calls (l0 : ByteArray) (r1 : List ByteArray) (r2 : Int) (w : World) (h : path_Parse.f l0 = some (r1, r2)) :
    Calls Try.prog 9 #[.string l0] w fun e w' => ∃ v0_ : Value, e = .returned (.tuple #[v0_, .int .i64 r2]) ∧ Kd.R Kd.string 9 w' w.heap.size (fun _ => True) v0_ r1 ∧ Below w.heap.size w w' := by
  unfold path_Parse.f at h
  split at h
  · rename_i hs
    injection h with h
    have := parse_calls l0 hs w
    rw [h] at this
    exact this
  · cases h
def path_Join.f (l0 : List ByteArray) : Option (ByteArray × Int) := if (joinB l0).length ≤ 140737488351232 then some (joinA l0) else none
theorem path_Join.calls (A0 : Option Addr) (c0 : Nat) (l0 : List ByteArray) (r1 : ByteArray) (r2 : Int) (w : World) (hr0 : Kd.C Kd.string w A0 l0.length l0) (hc0 : l0.length ≤ c0) (h : path_Join.f l0 = some (r1, r2)) :
    Calls Try.prog 16 #[.slice A0 l0.length c0] w fun e w' => e = .returned (.tuple #[.string r1, .int .i64 r2]) ∧ Below w.heap.size w w' := by
  unfold path_Join.f at h
  split at h
  · rename_i hs
    injection h with h
    have := join_calls A0 c0 l0 w hr0 hc0 hs
    rw [h] at this
    exact this
  · cases h

end Go.Proofs.Ytljddpnnfdaplaa.Jo
