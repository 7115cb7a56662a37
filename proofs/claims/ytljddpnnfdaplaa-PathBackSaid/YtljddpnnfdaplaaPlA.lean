/- What path.Parse and path.Join answer, in words: the names of a path, if they are right. -/
import Derived.Test.YtljddpnnfdaplaaPaSt
namespace Go.Proofs.Ytljddpnnfdaplaa.Pl
open Go.RowKit Go.Proofs.Ytljddpnnfdaplaa.Rt Go.Proofs.Ytljddpnnfdaplaa.Pa Go.Proofs.Ytljddpnnfdaplaa.Jo
set_option linter.unusedVariables false
set_option linter.unusedSimpArgs false

abbrev bs (x : ByteArray) : List UInt8 := x.data.toList
theorem ba_bs (x : ByteArray) : ba (bs x) = x := by apply ByteArray.ext; simp [ba]
theorem bs_ba (l : List UInt8) : bs (ba l) = l := rfl
theorem bs_inj {x y : ByteArray} (h : bs x = bs y) : x = y := by rw [← ba_bs x, ← ba_bs y, h]
theorem ba_inj {x y : List UInt8} (h : ba x = ba y) : x = y := by have := congrArg bs h; simpa [ba] using this
theorem toList_bs (x : ByteArray) : x.toList = bs x := ByteArray.toList_eq x

def okN (x : ByteArray) : Bool := rightB (bs x)
theorem rightB_47 {l : List UInt8} (h : rightB l = true) : 47 ∉ l := by
  intro hm
  have : l.contains 47 = true := List.contains_iff_mem.2 hm
  simp [rightB, this] at h
  exact h.2.2 hm
theorem rightB_ne {l : List UInt8} (h : rightB l = true) : l ≠ [] := by
  rintro rfl
  simp [rightB] at h
theorem rightB_len {l : List UInt8} (h : rightB l = true) : l.length ≤ 13 := by
  simp only [rightB, Bool.and_eq_true, decide_eq_true_eq] at h
  exact h.1.1.1.2

def goodB (l : List ByteArray) : Bool := decide (l.length ≤ 16) && l.all okN
theorem good_iff {l : List ByteArray} : goodB l = true ↔ l.length ≤ 16 ∧ ∀ x ∈ l, okN x = true := by simp [goodB]
def pathOf (l : List ByteArray) : List UInt8 := if l = [] then [47] else joinB l

theorem joinB_cons (x : ByteArray) (l : List ByteArray) : joinB (x :: l) = 47 :: (bs x ++ joinB l) := by simp [joinB]
theorem joinB_nil : joinB [] = [] := rfl
theorem joinB_append (l m : List ByteArray) : joinB (l ++ m) = joinB l ++ joinB m := by simp [joinB]

theorem scan_sound : ∀ (r cur : List UInt8) (n : Nat) (l : List ByteArray), scan r cur n = some l → n ≤ 16 →
    ∃ c rest, l = ba (cur ++ c) :: rest ∧ r = c ++ joinB rest ∧ rightB (cur ++ c) = true ∧ (∀ x ∈ rest, okN x = true) ∧ n + rest.length ≤ 16 := by
  intro r
  induction r with
  | nil =>
    intro cur n l h hn
    unfold scan at h
    split at h
    · rename_i hr
      injection h with h
      exact ⟨[], [], by simp [← h], by simp [joinB_nil], by simpa using hr, by simp, by simpa using hn⟩
    · cases h
  | cons c r ih =>
    intro cur n l h hn
    unfold scan at h
    split at h
    · rename_i hc
      split at h
      · rename_i hr
        split at h
        · cases h
        · rename_i h16
          rw [Option.map_eq_some_iff] at h
          obtain ⟨l', h1, rfl⟩ := h
          obtain ⟨c', rest', rfl, rfl, hr', hall, hlen⟩ := ih [] (n + 1) l' h1 (by omega)
          refine ⟨[], ba ([] ++ c') :: rest', by simp, ?_, by simpa using hr, ?_, by simp; omega⟩
          · simp [joinB_cons, hc, bs_ba]
          · intro x hx
            rcases List.mem_cons.1 hx with rfl | hx
            · exact hr'
            · exact hall x hx
      · cases h
    · rename_i hc
      obtain ⟨c', rest', rfl, rfl, hr', hall, hlen⟩ := ih (cur ++ [c]) n l h hn
      exact ⟨c :: c', rest', by simp, by simp, by simpa using hr', hall, hlen⟩

theorem scan_skip (r : List UInt8) (n : Nat) : ∀ (c cur : List UInt8), 47 ∉ c → scan (c ++ r) cur n = scan r (cur ++ c) n := by
  intro c
  induction c with
  | nil => intro cur _; simp
  | cons a c ih =>
    intro cur h
    have h1 : a ≠ 47 := fun e => h (by simp [e])
    rw [List.cons_append]
    conv => lhs; unfold scan
    rw [if_neg h1, ih _ (fun e => h (List.mem_cons_of_mem _ e))]
    simp

theorem scan_names : ∀ (rest : List ByteArray) (c cur : List UInt8) (n : Nat), 47 ∉ c → rightB (cur ++ c) = true → (∀ x ∈ rest, okN x = true) → n + rest.length ≤ 16 →
    scan (c ++ joinB rest) cur n = some (ba (cur ++ c) :: rest) := by
  intro rest
  induction rest with
  | nil =>
    intro c cur n hc hr _ _
    rw [scan_skip _ _ _ _ hc, joinB_nil]
    unfold scan
    rw [if_pos hr]
  | cons x rest ih =>
    intro c cur n hc hr hall hlen
    have hx := hall x (by simp)
    rw [scan_skip _ _ _ _ hc, joinB_cons]
    unfold scan
    rw [if_pos rfl, if_pos hr, if_neg (by simp at hlen; omega), ih (bs x) [] (n + 1) (rightB_47 hx) (by simpa [okN] using hx) (fun y hy => hall y (by simp [hy])) (by simp at hlen; omega)]
    simp [ba_bs]

theorem nameO_cons (c : UInt8) (r : List UInt8) (n : Nat) : nameO (c :: r) n = if c = 47 then (if n = 16 then none else scan r [] (n + 1)) else none := rfl
theorem parse_iff (s : List UInt8) (l : List ByteArray) : parseO s = some l ↔ goodB l = true ∧ s = pathOf l := by
  rw [good_iff]
  unfold parseO pathOf
  constructor
  · intro h
    split at h
    · rename_i hs
      injection h with h
      subst h
      exact ⟨⟨by simp, by simp⟩, by rw [if_pos rfl]; exact hs⟩
    · cases s with
      | nil => cases h
      | cons c r =>
        rw [nameO_cons] at h
        split at h
        · rename_i hc
          rw [if_neg (by decide)] at h
          obtain ⟨c', rest, rfl, rfl, hr, hall, hlen⟩ := scan_sound r [] 1 l h (by omega)
          refine ⟨⟨by simp; omega, ?_⟩, by rw [if_neg (by simp), joinB_cons, hc]; rfl⟩
          intro x hx
          rcases List.mem_cons.1 hx with rfl | hx
          · exact hr
          · exact hall x hx
        · cases h
  · rintro ⟨⟨hlen, hall⟩, hs⟩
    cases l with
    | nil => rw [if_pos rfl] at hs; rw [if_pos hs]
    | cons x rest =>
      rw [if_neg (by simp), joinB_cons] at hs
      have hx := hall x (by simp)
      have hne := rightB_ne hx
      rw [if_neg (by rw [hs]; intro e; injection e with _ e; exact hne (List.append_eq_nil_iff.1 e).1), hs]
      rw [nameO_cons, if_pos rfl, if_neg (by decide), scan_names rest (bs x) [] 1 (rightB_47 hx) (by simpa [okN] using hx) (fun y hy => hall y (by simp [hy])) (by simp at hlen; omega)]
      simp [ba_bs]

theorem pathOf_inj {l m : List ByteArray} (hl : goodB l = true) (hm : goodB m = true) (h : pathOf l = pathOf m) : l = m := by
  have h1 := (parse_iff (pathOf l) l).2 ⟨hl, rfl⟩
  have h2 := (parse_iff (pathOf l) m).2 ⟨hm, h⟩
  rw [h1] at h2
  exact Option.some.inj h2

theorem joinA_eq (l : List ByteArray) : joinA l = if goodB l then (ba (pathOf l), 0) else (ba [], 130) := by
  unfold joinA
  by_cases h : l = []
  · subst h; rfl
  · rw [if_neg h]
    have hp : pathOf l = joinB l := by unfold pathOf; rw [if_neg h]
    by_cases hg : goodB l = true
    · rw [if_pos ((parse_iff _ _).2 ⟨hg, hp.symm⟩), if_pos hg, hp]
    · rw [if_neg (fun e => hg ((parse_iff _ _).1 e).1), if_neg hg]

theorem good_len {l : List ByteArray} (h : goodB l = true) : (joinB l).length ≤ 14 * l.length := by
  rw [good_iff] at h
  have key : ∀ m : List ByteArray, (∀ x ∈ m, okN x = true) → (joinB m).length ≤ 14 * m.length := by
    intro m
    induction m with
    | nil => intro _; simp [joinB_nil]
    | cons x m ih =>
      intro hx
      have h1 := rightB_len (hx x (by simp))
      have h2 := ih (fun y hy => hx y (by simp [hy]))
      rw [joinB_cons]
      simp at h1 h2 ⊢
      omega
  exact key l h.2
theorem good_take {l : List ByteArray} (h : goodB l = true) (k : Nat) : goodB (l.take k) = true := by
  rw [good_iff] at h ⊢
  exact ⟨by rw [List.length_take]; omega, fun x hx => h.2 x (List.mem_of_mem_take hx)⟩
theorem good_dropLast {l : List ByteArray} (h : goodB l = true) : goodB l.dropLast = true := by
  rw [List.dropLast_eq_take]; exact good_take h _
theorem joinB_pos {l : List ByteArray} (h : l ≠ []) : 0 < (joinB l).length := by
  cases l with
  | nil => exact absurd rfl h
  | cons x l => rw [joinB_cons]; simp

end Go.Proofs.Ytljddpnnfdaplaa.Pl
