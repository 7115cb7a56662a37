/- The plain law of PathUnder. -/
import Derived.Test.YtljddpnnfdaplaaPlC
namespace Go.Proofs.Ytljddpnnfdaplaa.Pl
open Go.RowKit Go.Proofs.Ytljddpnnfdaplaa.Rt Go.Proofs.Ytljddpnnfdaplaa.Pa Go.Proofs.Ytljddpnnfdaplaa.Jo Go.Proofs.YtljddpnnfdaplaaW.PrintWords
set_option linter.unusedVariables false
set_option linter.unusedSimpArgs false

theorem und_l (l m : List ByteArray) (hm : m.length ≤ l.length) (hb : l.length ≤ 100) : ∀ g i k, i + g = m.length → g + 1 ≤ k → P.moatref13_Under.l0 k l m (i : Int) = some (decide ((l.drop i).take g = m.drop i)) := by
  intro g
  induction g with
  | zero =>
    intro i k hi hk
    obtain ⟨k, rfl⟩ : ∃ j, k = j + 1 := ⟨k - 1, by omega⟩
    unfold P.moatref13_Under.l0
    rw [if_neg (by omega), List.take_zero, List.drop_of_length_le (show m.length ≤ i by omega)]
    simp
  | succ g ih =>
    intro i k hi hk
    obtain ⟨k, rfl⟩ : ∃ j, k = j + 1 := ⟨k - 1, by omega⟩
    have h1 : i < l.length := by omega
    have h2 : i < m.length := by omega
    unfold P.moatref13_Under.l0
    rw [if_pos (by omega), if_pos (by omega), if_pos (by omega)]
    have e1 : rdOf ByteArray.empty l (i : Int) = l[i] := by simp [rdOf, h1]
    have e2 : rdOf ByteArray.empty m (i : Int) = m[i] := by simp [rdOf, h2]
    rw [e1, e2, show wrap64 ((i : Int) + 1) = ((i + 1 : Nat) : Int) by unfold wrap64; omega, ih (i + 1) k (by omega) (by omega), List.drop_eq_getElem_cons h1, List.drop_eq_getElem_cons h2, List.take_succ_cons]
    by_cases h : l[i] = m[i]
    · rw [h, if_pos rfl]; simp only [List.cons.injEq, true_and]
    · have h' : ¬ (l[i].toList = m[i].toList) := fun e => h (by rw [toList_bs, toList_bs] at e; exact bs_inj e)
      rw [if_neg h']
      congr 1; symm
      exact decide_eq_false (fun e => h (List.cons.inj e).1)

theorem ref_under (s t : ByteArray) (hs : s.size ≤ 1000) (ht : t.size ≤ 1000) (k : Nat) (hk : 2100 ≤ k) : P.moatref13_Under.f k s t = some (undA (parseO (bs s)) (parseO (bs t))) := by
  unfold P.moatref13_Under.f
  rw [ref_parse s hs k hk, ref_parse t ht k hk, Option.bind_some, Option.bind_some]
  obtain ⟨k, rfl⟩ : ∃ j, k = j + 1 := ⟨k - 1, by omega⟩
  have hj : ∀ l m b, P.moatref13_Under.j0 (k + 1) l m b = if b = true then some false else P.moatref13_Under.l0 k l m 0 := fun l m b => by
    conv => lhs; unfold P.moatref13_Under.j0
  cases hp : parseO (bs s) with
  | none => rw [if_neg (by decide), hj, if_pos rfl]; rfl
  | some l =>
    have hl := (good_iff.1 ((parse_iff _ _).1 hp).1).1
    cases hq : parseO (bs t) with
    | none => rw [if_pos (show (ans (some l)).2 = 0 from rfl), if_neg (by decide), hj, if_pos rfl]; rfl
    | some m =>
      rw [if_pos (show (ans (some l)).2 = 0 from rfl), if_pos (show (ans (some m)).2 = 0 from rfl), hj]
      show (if decide ((m.length : Int) > (l.length : Int)) = true then some false else P.moatref13_Under.l0 k l m 0) = _
      by_cases h : m.length ≤ l.length
      · rw [if_neg (by simp; omega)]
        have := und_l l m h (by omega) m.length 0 k (by omega) (by omega)
        rw [List.drop_zero, List.drop_zero] at this
        simp only [undA, h, true_and]
        exact this
      · rw [if_pos (by simp; omega)]
        simp [undA, h]

theorem under_law : P.moatlaw13_PathUnder.Pure := by
  intro a0 a1 _ _
  obtain ⟨t, ht, hts⟩ := few_ok a0
  obtain ⟨u, hu, hus⟩ := few_ok a1
  refine ⟨2100, ?_⟩
  unfold P.moatlaw13_PathUnder.f
  rw [shown_f 2100 (by omega), Option.bind_some, if_pos rfl, ht, hu]
  simp only [Option.bind_some]
  rw [under_f t u (by omega) (by omega), ref_under t u hts hus 2100 (by omega), Option.bind_some, Option.bind_some]
  simp
end Go.Proofs.Ytljddpnnfdaplaa.Pl
