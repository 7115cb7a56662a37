/- What the printed functions of path and its statements answer, in words. -/
import Derived.Test.YtljddpnnfdaplaaPlA
import Derived.Test.YtljddpnnfdaplaaP3
namespace Go.Proofs.Ytljddpnnfdaplaa.Pl
open Go.RowKit Go.Proofs.Ytljddpnnfdaplaa.Rt Go.Proofs.Ytljddpnnfdaplaa.Pa Go.Proofs.Ytljddpnnfdaplaa.Jo Go.Proofs.YtljddpnnfdaplaaW.PrintWords
set_option linter.unusedVariables false
set_option linter.unusedSimpArgs false

theorem parse_f (s : ByteArray) (hs : s.size ≤ 140737488351232) : P.path_Parse.f s = some (ans (parseO (bs s))) := if_pos hs
theorem join_f {l : List ByteArray} (h : (joinB l).length ≤ 140737488351232) : P.path_Join.f l = some (if goodB l then (ba (pathOf l), 0) else (ba [], 130)) := by
  rw [← joinA_eq]; exact if_pos h
theorem join_good {l : List ByteArray} (h : goodB l = true) : P.path_Join.f l = some (ba (pathOf l), 0) := by
  rw [join_f (by have := good_len h; have := (good_iff.1 h).1; omega), if_pos h]
theorem few_ok (a0 : ByteArray) : ∃ t, P.moatlaw13_few.f a0 = some t ∧ t.size ≤ 1000 := by
  have h1 : 0 ≤ mn (a0.size : Int) 1000 := by unfold mn; split <;> omega
  have h2 : mn (a0.size : Int) 1000 ≤ (a0.size : Int) := by unfold mn; split <;> omega
  have h3 : mn (a0.size : Int) 1000 ≤ 1000 := by unfold mn; split <;> omega
  refine ⟨_, by unfold P.moatlaw13_few.f; rw [if_pos h1, if_pos h2], ?_⟩
  rw [ByteArray.size_extract]
  omega

def splA : Option (List ByteArray) → ByteArray × ByteArray × Int
  | none => (ba [], ba [], 130)
  | some l => if l = [] then (ba [], ba [], 130) else (ba (pathOf l.dropLast), l.getLastD ByteArray.empty, 0)
def undA : Option (List ByteArray) → Option (List ByteArray) → Bool
  | some l, some m => decide (m.length ≤ l.length ∧ l.take m.length = m)
  | _, _ => false

theorem wrap_small (n : Nat) (h : n < 9223372036854775807) : wrap64 (n : Int) = n := by unfold wrap64; omega
theorem split_f (s : ByteArray) (hs : s.size ≤ 140737488351232) : P.path_Split.f s = some (splA (parseO (bs s))) := by
  unfold P.path_Split.f
  rw [parse_f s hs, Option.bind_some]
  cases hp : parseO (bs s) with
  | none => rw [if_neg (by simp [ans])]; rfl
  | some l =>
    have hg := ((parse_iff _ _).1 hp).1
    have hlen := (good_iff.1 hg).1
    simp only [splA]
    by_cases hl : l = []
    · subst hl; rfl
    · have hpos := List.length_pos_iff.2 hl
      have hw : wrap64 ((l.length : Int) - 1) = ((l.length - 1 : Nat) : Int) := by unfold wrap64; omega
      show (if (0 : Int) = 0 then (if (l.length : Int) = 0 then _ else (if 0 ≤ wrap64 ((l.length : Int) - 1) then (if wrap64 ((l.length : Int) - 1) ≤ (l.length : Int) then ((P.path_Join.f (l.take (wrap64 ((l.length : Int) - 1)).toNat)).bind fun bt122 => if wrap64 ((l.length : Int) - 1) < (l.length : Int) then some (bt122.1, rdOf ByteArray.empty l (wrap64 ((l.length : Int) - 1)), 0) else none) else none) else none)) else _) = _
      rw [if_pos rfl, if_neg (by omega), if_neg hl, hw, if_pos (by omega), if_pos (by omega), Int.toNat_natCast, join_good (good_take hg _), Option.bind_some, if_pos (by omega), List.dropLast_eq_take]
      congr 3
      simp [rdOf, List.getLastD_eq_getLast?, List.getLast?_eq_getElem?, List.getD_eq_getElem?_getD]
theorem under_f (s t : ByteArray) (hs : s.size ≤ 140737488351232) (ht : t.size ≤ 140737488351232) : P.path_Under.f s t = some (undA (parseO (bs s)) (parseO (bs t))) := by
  unfold P.path_Under.f
  rw [parse_f s hs, Option.bind_some, parse_f t ht, Option.bind_some]
  cases hp : parseO (bs s) with
  | none => rw [if_neg (by simp [ans])]; rfl
  | some l =>
    cases hq : parseO (bs t) with
    | none => rw [if_pos (by simp [ans]), if_neg (by simp [ans])]; rfl
    | some m =>
      simp only [undA]
      show (if (0 : Int) = 0 then (if (0 : Int) = 0 then (if (m.length : Int) ≤ (l.length : Int) then (if 0 ≤ (m.length : Int) then ((P.slices_Equal_string_string.f (l.take (m.length : Int).toNat) m).bind fun t185 => some t185) else none) else some false) else _) else _) = _
      rw [if_pos rfl, if_pos rfl]
      by_cases h : m.length ≤ l.length
      · rw [if_pos (by omega), if_pos (by omega), Int.toNat_natCast]
        simp [P.slices_Equal_string_string.f, h]
      · rw [if_neg (by omega)]
        simp [h]

theorem same_l (l m : List ByteArray) (hl : l.length = m.length) (hb : l.length < 9223372036854775807) : ∀ g i k, i + g = l.length → g + 1 ≤ k → P.moatref13_Same.l0 k l m (i : Int) = some (decide (l.drop i = m.drop i)) := by
  intro g
  induction g with
  | zero =>
    intro i k hi hk
    obtain ⟨k, rfl⟩ : ∃ j, k = j + 1 := ⟨k - 1, by omega⟩
    unfold P.moatref13_Same.l0
    rw [if_neg (by omega), List.drop_of_length_le (by omega), List.drop_of_length_le (by omega)]
    simp
  | succ g ih =>
    intro i k hi hk
    obtain ⟨k, rfl⟩ : ∃ j, k = j + 1 := ⟨k - 1, by omega⟩
    have h1 : i < l.length := by omega
    have h2 : i < m.length := by omega
    unfold P.moatref13_Same.l0
    rw [if_pos (by omega), if_pos (by omega), if_pos (by omega)]
    have e1 : rdOf ByteArray.empty l (i : Int) = l[i] := by simp [rdOf, h1]
    have e2 : rdOf ByteArray.empty m (i : Int) = m[i] := by simp [rdOf, h2]
    rw [e1, e2, show wrap64 ((i : Int) + 1) = ((i + 1 : Nat) : Int) by unfold wrap64; omega, ih (i + 1) k (by omega) (by omega), List.drop_eq_getElem_cons h1, List.drop_eq_getElem_cons h2]
    by_cases h : l[i] = m[i]
    · rw [h, if_pos rfl]; simp only [List.cons.injEq, true_and]
    · have h' : ¬ (l[i].toList = m[i].toList) := fun e => h (by rw [toList_bs, toList_bs] at e; exact bs_inj e)
      rw [if_neg h']
      congr 1; symm
      exact decide_eq_false (fun e => h (List.cons.inj e).1)
theorem same_f (l m : List ByteArray) (hb : l.length < 9223372036854775807) (k : Nat) (hk : l.length + 1 ≤ k) : P.moatref13_Same.f k l m = some (decide (l = m)) := by
  unfold P.moatref13_Same.f
  by_cases h : l.length = m.length
  · rw [if_pos (by omega)]
    have := same_l l m h hb l.length 0 k (by omega) hk
    simpa using this
  · rw [if_neg (by omega)]
    congr 1
    symm
    exact decide_eq_false (fun e => h (by rw [e]))

theorem p_abc : parseO [47, 97, 47, 98, 99] = some [ba [97], ba [98, 99]] := (parse_iff _ _).2 ⟨by decide, by decide⟩
theorem p_a : parseO [47, 97, 47] = none := by simp [parseO, nameO, scan, rightB]
theorem p_root : parseO [47] = some [] := by simp [parseO]
theorem shown_f (k : Nat) (hk : 3 ≤ k) : P.moatlaw13_shown.f k = some true := by
  unfold P.moatlaw13_shown.f
  have e1 : bs (⟨#[47, 97, 47, 98, 99]⟩ : ByteArray) = [47, 97, 47, 98, 99] := rfl
  have e2 : bs (⟨#[47, 97, 47]⟩ : ByteArray) = [47, 97, 47] := rfl
  rw [parse_f _ (by decide), split_f _ (by decide), parse_f _ (by decide), e1, e2, p_abc, p_a]
  simp only [Option.bind_some, ans, if_true]
  rw [same_f _ _ (by decide) k (by simpa using hk), Option.bind_some, if_pos (by decide)]
  simp only [splA, toList_bs]
  decide
end Go.Proofs.Ytljddpnnfdaplaa.Pl
