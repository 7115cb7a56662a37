/- The plain law of PathNames. -/
import Derived.Test.YtljddpnnfdaplaaPlPathOrder
import Derived.Test.YtljddpnnfdaplaaP5
namespace Go.Proofs.Ytljddpnnfdaplaa.Pl
open Go.RowKit Go.Proofs.Ytljddpnnfdaplaa.Rt Go.Proofs.Ytljddpnnfdaplaa.Pa Go.Proofs.Ytljddpnnfdaplaa.Jo Go.Proofs.YtljddpnnfdaplaaW.PrintWords
set_option linter.unusedVariables false
set_option linter.unusedSimpArgs false

theorem joinB_one (n : ByteArray) : (joinB [n]).length = n.size + 1 := by simp [joinB]
theorem good_one (n : ByteArray) : goodB [n] = okN n := by simp [goodB]
theorem good_snoc (l : List ByteArray) (n : ByteArray) (hl : goodB l = true) : goodB (l ++ [n]) = (decide (l.length ≠ 16) && okN n) := by
  rw [good_iff] at hl
  rw [Bool.eq_iff_iff, good_iff, Bool.and_eq_true, decide_eq_true_eq]
  constructor
  · rintro ⟨h1, h2⟩
    simp at h1
    exact ⟨by omega, h2 n (by simp)⟩
  · rintro ⟨h1, h2⟩
    refine ⟨by simp; omega, fun x hx => ?_⟩
    rcases List.mem_append.1 hx with hx | hx
    · exact hl.2 x hx
    · rw [List.mem_singleton.1 hx]; exact h2

theorem names_bad (t n : ByteArray) : P.moatlaw13_PathNames.j0 5 true t n (ba []) 130 true = some true := by
  unfold P.moatlaw13_PathNames.j0
  dsimp only
  rw [if_pos rfl, if_pos rfl, if_pos rfl, toList_bs]
  rfl
theorem names_law : P.moatlaw13_PathNames.Pure := by
  intro a0 a1 _ _
  obtain ⟨t, ht, hts⟩ := few_ok a0
  have h1 : 0 ≤ mn (a1.size : Int) 100 := by unfold mn; split <;> omega
  have h2 : mn (a1.size : Int) 100 ≤ (a1.size : Int) := by unfold mn; split <;> omega
  have h3 : mn (a1.size : Int) 100 ≤ 100 := by unfold mn; split <;> omega
  obtain ⟨n, hn⟩ : ∃ n, n = a1.extract 0 (mn (a1.size : Int) 100).toNat := ⟨_, rfl⟩
  have hns : n.size ≤ 100 := by rw [hn, ByteArray.size_extract]; omega
  refine ⟨5, ?_⟩
  unfold P.moatlaw13_PathNames.f
  rw [shown_f 5 (by omega), ht, Option.bind_some, Option.bind_some, if_pos h1, if_pos h2, ← hn, parse_f t (by omega), join_f (l := [n]) (by rw [joinB_one]; omega)]
  cases hp : parseO (bs t) with
  | none =>
    rw [show ans none = (([], 130) : List ByteArray × Int) from rfl, Option.bind_some, Option.bind_some, Option.bind_some, if_pos (by decide), Option.bind_some, if_pos (by simp)]
    rw [join_f (by simp [joinB]; omega), Option.bind_some, if_neg (by decide), if_pos rfl]
    rfl
  | some l =>
    obtain ⟨hg, hs⟩ := (parse_iff _ _).1 hp
    have hlen := (good_iff.1 hg).1
    have hjl := good_len hg
    have hsz : (joinB ([] ++ l ++ [n])).length ≤ 140737488351232 := by
      rw [List.nil_append, joinB_append, List.length_append, joinB_one]; omega
    rw [show ans (some l) = ((l, 0) : List ByteArray × Int) from rfl, Option.bind_some, Option.bind_some, Option.bind_some, if_pos (by simp; omega), Option.bind_some, if_pos (by simp; omega)]
    rw [join_f hsz, Option.bind_some, if_pos rfl, List.nil_append, good_snoc l n hg, good_one]
    have hc : ((l.length : Int) == 16) = decide (l.length = 16) := by
      rw [Bool.eq_iff_iff, beq_iff_eq, decide_eq_true_eq]; omega
    show (if (if okN n = true then (ba (pathOf [n]), (0 : Int)) else (ba [], 130)).2 = 0 then P.moatlaw13_PathNames.j0 5 true t n (if (decide (l.length ≠ 16) && okN n) = true then (ba (pathOf (l ++ [n])), (0 : Int)) else (ba [], 130)).1 (if (decide (l.length ≠ 16) && okN n) = true then (ba (pathOf (l ++ [n])), (0 : Int)) else (ba [], 130)).2 ((l.length : Int) == 16) else P.moatlaw13_PathNames.j0 5 true t n (if (decide (l.length ≠ 16) && okN n) = true then (ba (pathOf (l ++ [n])), (0 : Int)) else (ba [], 130)).1 (if (decide (l.length ≠ 16) && okN n) = true then (ba (pathOf (l ++ [n])), (0 : Int)) else (ba [], 130)).2 true) = some true
    rw [hc]
    by_cases ho : okN n = true
    · by_cases h16 : l.length = 16
      · simp [ho, h16]
        exact names_bad t n
      · have hgs : goodB (l ++ [n]) = true := by rw [good_snoc l n hg]; simp [ho, h16]
        have hps : parseO (bs (ba (pathOf (l ++ [n])))) = some (l ++ [n]) := parse_path hgs
        have hz : (ba (pathOf (l ++ [n]))).size ≤ 140737488351232 := by rw [ba_size]; have := pathOf_len hgs; omega
        simp only [ho, h16, ne_eq, not_false_eq_true, decide_true, Bool.and_self, if_true, decide_false]
        show P.moatlaw13_PathNames.j0 5 true t n (ba (pathOf (l ++ [n]))) 0 false = some true
        unfold P.moatlaw13_PathNames.j0
        dsimp only
        rw [if_neg (by decide), split_f _ hz, hps, show splA (some (l ++ [n])) = (ba (pathOf (l ++ [n]).dropLast), (l ++ [n]).getLastD ByteArray.empty, 0) from if_neg (by simp), Option.bind_some, if_pos rfl, if_pos rfl, if_pos rfl]
        rw [under_f _ t hz (by omega), hps, hp, und_of (List.prefix_append l [n])]
        have e1 : (ba (pathOf (l ++ [n]).dropLast)).toList = t.toList := by rw [toList_bs, toList_bs, bs_ba, List.dropLast_concat, ← hs]
        have e2 : ((l ++ [n]).getLastD ByteArray.empty).toList = n.toList := by simp [List.getLastD_eq_getLast?]
        rw [if_pos e1, if_pos e2]
        rfl
    · simp only [ho]
      simp
      exact names_bad t n
end Go.Proofs.Ytljddpnnfdaplaa.Pl
