/- The plain law of PathOrder. -/
import Derived.Test.YtljddpnnfdaplaaPlB
import Derived.Test.YtljddpnnfdaplaaP4
namespace Go.Proofs.Ytljddpnnfdaplaa.Pl
open Go.RowKit Go.Proofs.Ytljddpnnfdaplaa.Rt Go.Proofs.Ytljddpnnfdaplaa.Pa Go.Proofs.Ytljddpnnfdaplaa.Jo Go.Proofs.YtljddpnnfdaplaaW.PrintWords
set_option linter.unusedVariables false
set_option linter.unusedSimpArgs false

theorem und_self (o : Option (List ByteArray)) : undA o o = o.isSome := by cases o <;> simp [undA]
theorem und_root (o : Option (List ByteArray)) : undA o (some []) = o.isSome := by cases o <;> simp [undA]
theorem und_some {o p : Option (List ByteArray)} (h : undA o p = true) : ∃ l m, o = some l ∧ p = some m ∧ m <+: l := by
  cases o with
  | none => simp [undA] at h
  | some l =>
    cases p with
    | none => simp [undA] at h
    | some m =>
      simp only [undA, decide_eq_true_eq] at h
      exact ⟨l, m, rfl, rfl, by rw [← h.2]; exact List.take_prefix _ _⟩
theorem und_of {l m : List ByteArray} (h : m <+: l) : undA (some l) (some m) = true := by
  simp only [undA, decide_eq_true_eq]
  exact ⟨h.length_le, (List.prefix_iff_eq_take.1 h).symm⟩
theorem und_trans {o p q : Option (List ByteArray)} (h1 : undA o p = true) (h2 : undA p q = true) : undA o q = true := by
  obtain ⟨l, m, rfl, rfl, h⟩ := und_some h1
  obtain ⟨m', n, e, rfl, h'⟩ := und_some h2
  injection e with e
  subst e
  exact und_of (h'.trans h)
theorem und_anti {o p : Option (List ByteArray)} (h1 : undA o p = true) (h2 : undA p o = true) : o = p := by
  obtain ⟨l, m, rfl, rfl, h⟩ := und_some h1
  obtain ⟨m', n, e, e', h'⟩ := und_some h2
  injection e with e; injection e' with e'
  subst e; subst e'
  rw [h.eq_of_length (Nat.le_antisymm h.length_le h'.length_le)]
theorem isSome_zero (o : Option (List ByteArray)) : ((ans o).2 == 0) = o.isSome := by cases o <;> rfl
theorem ba_size (l : List UInt8) : (ba l).size = l.length := by simp [ba, ByteArray.size]
theorem pathOf_len {l : List ByteArray} (h : goodB l = true) : (pathOf l).length ≤ 300 := by
  unfold pathOf
  split
  · simp
  · have := good_len h; have := (good_iff.1 h).1; omega
theorem parse_path {l : List ByteArray} (h : goodB l = true) : parseO (pathOf l) = some l := (parse_iff _ _).2 ⟨h, rfl⟩

theorem order_j (k : Nat) (t : ByteArray) (ht : t.size ≤ 1000) : P.moatlaw13_PathOrder.j0 (k + 1) true t false = some true := by
  unfold P.moatlaw13_PathOrder.j0
  dsimp only
  rw [if_neg (by decide), split_f t (by omega)]
  cases hp : parseO (bs t) with
  | none => rfl
  | some l =>
    have hg := ((parse_iff _ _).1 hp).1
    by_cases hl : l = []
    · subst hl; rfl
    · rw [show splA (some l) = (ba (pathOf l.dropLast), l.getLastD ByteArray.empty, 0) from if_neg hl, Option.bind_some, if_pos rfl]
      have hd := good_dropLast hg
      have hz : (ba (pathOf l.dropLast)).size ≤ 140737488351232 := by rw [ba_size]; have := pathOf_len hd; omega
      have hpd : parseO (bs (ba (pathOf l.dropLast))) = some l.dropLast := parse_path hd
      show (if (0 : Int) = 0 then ((P.path_Under.f t (ba (pathOf l.dropLast))).bind fun t225 => (if t225 = true then ((P.path_Under.f (ba (pathOf l.dropLast)) t).bind fun t226 => (some (!t226))) else (some false))) else (some true)) = some true
      rw [if_pos rfl, under_f t _ (by omega) hz, under_f _ t hz (by omega), hp, hpd, und_of (List.dropLast_prefix l), Option.bind_some, if_pos rfl, Option.bind_some]
      congr 1
      cases h : undA (some l.dropLast) (some l) with
      | false => rfl
      | true =>
        obtain ⟨a, b, e, e', h'⟩ := und_some h
        injection e with e; injection e' with e'
        subst e; subst e'
        have := h'.length_le
        rw [List.length_dropLast] at this
        have := List.length_pos_iff.2 hl
        omega

theorem order_law : P.moatlaw13_PathOrder.Pure := by
  intro a0 a1 a2 _ _ _
  obtain ⟨t, ht, hts⟩ := few_ok a0
  obtain ⟨u, hu, hus⟩ := few_ok a1
  obtain ⟨v, hv, hvs⟩ := few_ok a2
  refine ⟨5, ?_⟩
  unfold P.moatlaw13_PathOrder.f
  have hz : (⟨#[47]⟩ : ByteArray).size ≤ 140737488351232 := by decide
  have hr : parseO (bs (⟨#[47]⟩ : ByteArray)) = some [] := p_root
  rw [shown_f 5 (by omega), ht, hu, hv]
  simp only [Option.bind_some, parse_f t (by omega), under_f t t (by omega) (by omega), under_f t _ (by omega) hz, under_f t u (by omega) (by omega), under_f u v (by omega) (by omega), under_f t v (by omega) (by omega), under_f u t (by omega) (by omega), hr, und_self, und_root, isSome_zero]
  rw [if_neg (by simp), if_neg (by simp)]
  have hj := order_j 4 t hts
  have ha : undA (parseO (bs t)) (parseO (bs u)) = true → undA (parseO (bs u)) (parseO (bs t)) = true → (t.toList != u.toList) = false := by
    intro h1 h2
    have e := und_anti h1 h2
    obtain ⟨l, m, e1, e2, _⟩ := und_some h1
    rw [e1, e2] at e
    injection e with e
    subst e
    rw [toList_bs, toList_bs, ((parse_iff _ _).1 e1).2, ((parse_iff _ _).1 e2).2]
    simp
  by_cases h1 : undA (parseO (bs t)) (parseO (bs u)) = true
  · by_cases h2 : undA (parseO (bs u)) (parseO (bs v)) = true
    · have h3 := und_trans h1 h2
      by_cases h4 : undA (parseO (bs u)) (parseO (bs t)) = true
      · simp only [h1, h2, h3, h4, if_true, ha h1 h4, hj]
      · simp [h1, h2, h3, h4, hj]
    · by_cases h4 : undA (parseO (bs u)) (parseO (bs t)) = true
      · rw [if_pos h1, if_neg h2, if_pos h1, if_pos h4, ha h1 h4, hj]
      · simp [h1, h2, h4, hj]
  · simp [h1, hj]
end Go.Proofs.Ytljddpnnfdaplaa.Pl
