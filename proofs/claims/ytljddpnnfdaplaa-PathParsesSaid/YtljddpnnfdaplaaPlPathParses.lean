/- The plain law of PathParses. -/
import Derived.Test.YtljddpnnfdaplaaPlC
namespace Go.Proofs.Ytljddpnnfdaplaa.Pl
open Go.RowKit Go.Proofs.Ytljddpnnfdaplaa.Rt Go.Proofs.Ytljddpnnfdaplaa.Pa Go.Proofs.Ytljddpnnfdaplaa.Jo Go.Proofs.YtljddpnnfdaplaaW.PrintWords
set_option linter.unusedVariables false
set_option linter.unusedSimpArgs false

theorem ref_split (s : ByteArray) (hs : s.size ≤ 1000) (k : Nat) (hk : 2100 ≤ k) : P.moatref13_Split.f k s = some (splA (parseO (bs s))) := by
  unfold P.moatref13_Split.f
  rw [ref_parse s hs k hk, Option.bind_some]
  cases hp : parseO (bs s) with
  | none => rw [if_neg (by simp [ans])]; rfl
  | some l =>
    have hg := ((parse_iff _ _).1 hp).1
    have hlen := (good_iff.1 hg).1
    simp only [splA]
    by_cases hl : l = []
    · subst hl; rfl
    · have hpos := List.length_pos_iff.2 hl
      have hw : wrap64 ((l.length : Int) - 1) = ((l.length - 1 : Nat) : Int) := by unfold wrap64; omega
      have hj : jn (l.take (l.length - 1)) = (ba (pathOf (l.take (l.length - 1))), 0) := if_pos (good_take hg _)
      show (if (0 : Int) = 0 then (if (l.length : Int) = 0 then _ else (if 0 ≤ wrap64 ((l.length : Int) - 1) then (if wrap64 ((l.length : Int) - 1) ≤ (l.length : Int) then ((P.moatref13_Join.f k (l.take (wrap64 ((l.length : Int) - 1)).toNat)).bind fun bt122 => if wrap64 ((l.length : Int) - 1) < (l.length : Int) then some (bt122.1, rdOf ByteArray.empty l (wrap64 ((l.length : Int) - 1)), 0) else none) else none) else none)) else _) = _
      rw [if_pos rfl, if_neg (by omega), if_neg hl, hw, if_pos (by omega), if_pos (by omega), Int.toNat_natCast, ref_join _ k (by omega), hj, Option.bind_some, if_pos (by omega), List.dropLast_eq_take]
      congr 3
      simp [rdOf, List.getLastD_eq_getLast?, List.getLast?_eq_getElem?, List.getD_eq_getElem?_getD]

theorem parses_law : P.moatlaw13_PathParses.Pure := by
  intro a0 _
  obtain ⟨t, ht, hts⟩ := few_ok a0
  refine ⟨2100, ?_⟩
  unfold P.moatlaw13_PathParses.f
  rw [shown_f 2100 (by omega), ht]
  simp only [Option.bind_some]
  rw [parse_f t (by omega), ref_parse t hts 2100 (by omega), split_f t (by omega), ref_split t hts 2100 (by omega)]
  simp only [Option.bind_some]
  have hl : (ans (parseO (bs t))).1.length ≤ 16 := by
    cases hp : parseO (bs t) with
    | none => simp [ans]
    | some l => exact (good_iff.1 ((parse_iff _ _).1 hp).1).1
  rw [same_f _ _ (by omega) 2100 (by omega)]
  simp
end Go.Proofs.Ytljddpnnfdaplaa.Pl
