/- The reference of path in words: the same answers. -/
import Derived.Test.YtljddpnnfdaplaaPlPathOrder
namespace Go.Proofs.Ytljddpnnfdaplaa.Pl
open Go.RowKit Go.Proofs.Ytljddpnnfdaplaa.Rt Go.Proofs.Ytljddpnnfdaplaa.Pa Go.Proofs.Ytljddpnnfdaplaa.Jo Go.Proofs.YtljddpnnfdaplaaW.PrintWords
set_option linter.unusedVariables false
set_option linter.unusedSimpArgs false

theorem bt_nat (s : ByteArray) (i : Nat) (h : i < s.size) : bt s (i : Int) = ((s[i]'h).toNat : Int) := by
  have := bt_at s (i : Int) (by simpa using h)
  simpa using this.symm
theorem bt_47 (s : ByteArray) (i : Nat) (h : i < s.size) : (bt s (i : Int) = 47) ↔ s[i]'h = 47 := by
  rw [bt_nat s i h]
  constructor
  · intro e; exact UInt8.toNat_inj.1 (show (s[i]'h).toNat = 47 by omega)
  · intro e; rw [e]; rfl
theorem bt_0 (s : ByteArray) (i : Nat) (h : i < s.size) : (bt s (i : Int) = 0) ↔ s[i]'h = 0 := by
  rw [bt_nat s i h]
  constructor
  · intro e; exact UInt8.toNat_inj.1 (show (s[i]'h).toNat = 0 by omega)
  · intro e; rw [e]; rfl

theorem right_l (s : ByteArray) (hs : s.size ≤ 13) : ∀ g i k, i + g = s.size → g + 1 ≤ k → P.moatref12_Right.l0 k s (i : Int) = some (!(((bs s).drop i).contains 0 || ((bs s).drop i).contains 47)) := by
  intro g
  induction g with
  | zero =>
    intro i k hi hk
    obtain ⟨k, rfl⟩ : ∃ j, k = j + 1 := ⟨k - 1, by omega⟩
    unfold P.moatref12_Right.l0
    rw [if_neg (by omega), List.drop_of_length_le (by simp [bs]; omega)]
    rfl
  | succ g ih =>
    intro i k hi hk
    obtain ⟨k, rfl⟩ : ∃ j, k = j + 1 := ⟨k - 1, by omega⟩
    have h1 : i < s.size := by omega
    unfold P.moatref12_Right.l0
    rw [if_pos (by omega), if_pos (by omega), show wrap64 ((i : Int) + 1) = ((i + 1 : Nat) : Int) by unfold wrap64; omega, ih (i + 1) k (by omega) (by omega), drop_cons s i h1]
    by_cases h0 : s[i]'h1 = 0
    · rw [if_pos ((bt_0 s i h1).2 h0), h0]; simp
    · rw [if_neg (fun e => h0 ((bt_0 s i h1).1 e))]
      by_cases h4 : s[i]'h1 = 47
      · rw [if_pos ((bt_47 s i h1).2 h4), h4]; simp
      · rw [if_neg (fun e => h4 ((bt_47 s i h1).1 e))]
        have a : ((0 : UInt8) == s[i]'h1) = false := beq_eq_false_iff_ne.2 (fun e => h0 e.symm)
        have b : ((47 : UInt8) == s[i]'h1) = false := beq_eq_false_iff_ne.2 (fun e => h4 e.symm)
        rw [List.contains_cons, List.contains_cons, a, b, Bool.false_or, Bool.false_or]
theorem right_f (s : ByteArray) (k : Nat) (hk : 16 ≤ k) : P.moatref12_Right.f k s = some (rightB (bs s)) := by
  obtain ⟨k, rfl⟩ : ∃ j, k = j + 1 := ⟨k - 1, by omega⟩
  have hj : ∀ b, P.moatref12_Right.j0 (k + 1) s b = if b = true then some false else P.moatref12_Right.l0 k s 0 := fun b => by
    conv => lhs; unfold P.moatref12_Right.j0
  unfold P.moatref12_Right.f
  by_cases h0 : s.toList = []
  · rw [if_pos h0, hj, if_pos rfl, right_nil h0]
  · rw [if_neg h0]
    by_cases hs : s.size ≤ 13
    · rw [if_neg (by omega)]
      by_cases h1 : s.toList = [46]
      · rw [if_pos h1, hj, if_pos rfl, right_dot h1]
      · rw [if_neg h1, hj]
        by_cases h2 : s.toList = [46, 46]
        · rw [if_pos (by rw [h2]; rfl), right_dots h2]
        · rw [if_neg (by rw [beq_eq_false_iff_ne.2 h2]; decide)]
          have := right_l s hs s.size 0 k (by omega) (by omega)
          rw [List.drop_zero] at this
          rw [show (0 : Int) = ((0 : Nat) : Int) from rfl, this, right_rest hs h0 h1 h2 rfl]
    · rw [if_pos (by omega), hj, if_pos rfl, right_long hs]

theorem append_bs (x y : ByteArray) : bs (x ++ y) = bs x ++ bs y := by
  unfold bs
  rw [ByteArray.data_append, Array.toList_append]
theorem size_bs (x : ByteArray) : x.size = (bs x).length := by
  unfold bs
  rw [Array.length_toList]
  rfl
/-- What the reference's Join makes of l. -/
def jn (l : List ByteArray) : ByteArray × Int := if goodB l then (ba (pathOf l), 0) else (ba [], 130)
theorem ref_join_l (l : List ByteArray) (hl : l.length ≤ 16) : ∀ g i k (x : ByteArray), i + g = l.length → g + 18 ≤ k → bs x = joinB (l.take i) → (∀ y ∈ l.take i, okN y = true) →
    P.moatref13_Join.l0 k l x (i : Int) = some (if (l.drop i).all okN then (ba (pathOf l), 0) else (ba [], 130)) := by
  intro g
  induction g with
  | zero =>
    intro i k x hi hk hx hall
    obtain ⟨k, rfl⟩ : ∃ j, k = j + 1 := ⟨k - 1, by omega⟩
    unfold P.moatref13_Join.l0
    have hil : i = l.length := by omega
    subst hil
    rw [List.take_length] at hx
    rw [if_neg (by omega), List.drop_length, List.all_nil, if_pos rfl, toList_bs, hx]
    unfold pathOf
    by_cases h : l = []
    · subst h; rfl
    · have := joinB_pos h
      rw [if_neg (by intro e; rw [e] at this; simp at this), if_neg h, ← hx, ba_bs]
  | succ g ih =>
    intro i k x hi hk hx hall
    obtain ⟨k, rfl⟩ : ∃ j, k = j + 1 := ⟨k - 1, by omega⟩
    have h1 : i < l.length := by omega
    unfold P.moatref13_Join.l0
    have e1 : rdOf ByteArray.empty l (i : Int) = l[i] := by simp [rdOf, h1]
    rw [if_pos (by omega), if_pos (by omega), e1, right_f _ k (by omega), Option.bind_some, List.drop_eq_getElem_cons h1, List.all_cons]
    show (if rightB (bs l[i]) = true then _ else _) = _
    by_cases ho : rightB (bs l[i]) = true
    · have hxl : x.size ≤ 14 * 16 := by
        rw [size_bs, hx]
        have : goodB (l.take i) = true := good_iff.2 ⟨by rw [List.length_take]; omega, hall⟩
        have h2 := good_len this
        rw [List.length_take] at h2
        omega
      have hol := rightB_len ho
      rw [if_pos ho, if_pos (by omega), if_pos (by rw [ByteArray.size_append, size_bs l[i]]; have : (⟨#[47]⟩ : ByteArray).size = 1 := rfl; omega), show wrap64 ((i : Int) + 1) = ((i + 1 : Nat) : Int) by unfold wrap64; omega]
      rw [ih (i + 1) k _ (by omega) (by omega) (by rw [append_bs, append_bs, hx, List.take_succ_eq_append_getElem h1, joinB_append, joinB_cons, joinB_nil]; simp [bs]) (fun y hy => by
        rw [List.take_succ_eq_append_getElem h1] at hy
        rcases List.mem_append.1 hy with hy | hy
        · exact hall y hy
        · rw [List.mem_singleton.1 hy]; exact ho)]
      rw [show okN l[i] = true from ho, Bool.true_and]
    · rw [if_neg ho, show okN l[i] = false from Bool.eq_false_iff.2 ho, Bool.false_and, if_neg (by decide)]
      rfl
theorem ref_join (l : List ByteArray) (k : Nat) (hk : 40 ≤ k) : P.moatref13_Join.f k l = some (jn l) := by
  unfold P.moatref13_Join.f jn goodB
  by_cases h : l.length ≤ 16
  · rw [if_neg (by omega)]
    have := ref_join_l l h l.length 0 k ⟨#[]⟩ (by omega) (by omega) rfl (by simp)
    rw [List.drop_zero] at this
    rw [decide_eq_true h, Bool.true_and]
    exact this
  · rw [if_pos (by omega), decide_eq_false h, Bool.false_and, if_neg (by decide)]
    rfl

/-- The texts between the signs. -/
def sp : List UInt8 → Option (List UInt8) → List ByteArray
  | [], none => []
  | [], some u => [ba u]
  | c :: r, o => if c = 47 then (match o with | none => sp r (some []) | some u => ba u :: sp r (some [])) else sp r (o.map (· ++ [c]))
theorem sp_skip (r : List UInt8) : ∀ (c u : List UInt8), 47 ∉ c → sp (c ++ r) (some u) = sp r (some (u ++ c)) := by
  intro c
  induction c with
  | nil => intro u _; simp
  | cons a c ih =>
    intro u h
    have h1 : a ≠ 47 := fun e => h (by simp [e])
    rw [List.cons_append]
    conv => lhs; unfold sp
    rw [if_neg h1, Option.map_some, ih _ (fun e => h (List.mem_cons_of_mem _ e))]
    simp
theorem sp_some : ∀ (l : List ByteArray) (u : List UInt8), (∀ x ∈ l, okN x = true) → sp (joinB l) (some u) = ba u :: l := by
  intro l
  induction l with
  | nil => intro u _; rfl
  | cons x l ih =>
    intro u h
    have hx := h x (by simp)
    rw [joinB_cons]
    unfold sp
    rw [if_pos rfl]
    show ba u :: sp (bs x ++ joinB l) (some []) = _
    rw [sp_skip _ _ _ (rightB_47 hx), ih _ (fun y hy => h y (by simp [hy])), List.nil_append, ba_bs]
theorem sp_none (l : List ByteArray) (h : ∀ x ∈ l, okN x = true) : sp (joinB l) none = l := by
  cases l with
  | nil => rfl
  | cons x l =>
    have hx := h x (by simp)
    rw [joinB_cons]
    unfold sp
    rw [if_pos rfl]
    show sp (bs x ++ joinB l) (some []) = _
    rw [sp_skip _ _ _ (rightB_47 hx), sp_some _ _ (fun y hy => h y (by simp [hy])), List.nil_append, ba_bs]
/-- The reference's last look: the names, if their path is s. -/
def chk (s : List UInt8) (L : List ByteArray) : Option (List ByteArray) := if goodB L = true ∧ pathOf L = s then some L else none
theorem chk_sp (s : List UInt8) (hs : s ≠ [47]) : chk s (sp s none) = parseO s := by
  cases hp : parseO s with
  | none =>
    unfold chk
    split
    · rename_i h
      rw [(parse_iff _ _).2 ⟨h.1, h.2.symm⟩] at hp
      cases hp
    · rfl
  | some l =>
    obtain ⟨hg, e⟩ := (parse_iff _ _).1 hp
    have hl : l ≠ [] := by rintro rfl; exact hs e
    have e2 : s = joinB l := by rw [e]; unfold pathOf; rw [if_neg hl]
    have : sp s none = l := by rw [e2]; exact sp_none l (good_iff.1 hg).2
    rw [this]
    unfold chk
    rw [if_pos ⟨hg, e.symm⟩]

theorem j2_f (s : ByteArray) (out : List ByteArray) (fr : Nat) (hf : fr ≤ s.size) (ho : out.length < 8796093022208) (k : Nat) (hk : 41 ≤ k) (b : Bool) :
    P.moatref13_Parse.j2 k s out (fr : Int) b = some (ans (chk (bs s) (if b then out ++ [s.extract fr s.size] else out))) := by
  obtain ⟨k, rfl⟩ : ∃ j, k = j + 1 := ⟨k - 1, by omega⟩
  have key : ∀ L : List ByteArray, ((P.moatref13_Join.f k L).bind fun bt110 => (if bt110.2 = 0 then (if bt110.1.toList = s.toList then (some (L, (0 : Int))) else (some (([] : List ByteArray), 130))) else (some (([] : List ByteArray), 130)))) = some (ans (chk (bs s) L)) := by
    intro L
    rw [ref_join L k (by omega), Option.bind_some]
    unfold chk jn
    by_cases hg : goodB L = true
    · rw [if_pos hg]
      show (if (0 : Int) = 0 then (if (ba (pathOf L)).toList = s.toList then (some (L, (0 : Int))) else (some (([] : List ByteArray), 130))) else (some (([] : List ByteArray), 130))) = _
      rw [if_pos rfl, toList_bs, toList_bs, bs_ba]
      by_cases he : pathOf L = bs s
      · rw [if_pos he, if_pos ⟨hg, he⟩]; rfl
      · rw [if_neg he, if_neg (fun h => he h.2)]; rfl
    · rw [if_neg hg, if_neg (show ¬ (goodB L = true ∧ pathOf L = bs s) from fun h => hg h.1)]; rfl
  unfold P.moatref13_Parse.j2
  (try dsimp only)
  cases b with
  | true =>
    rw [if_pos rfl, if_pos (by omega), if_pos (by omega), if_pos ho, Option.bind_some, Int.toNat_natCast, key]
    rfl
  | false =>
    rw [if_neg (by decide), key]
    rfl

/-- The names seen so far, and where the last one began (none: no sign yet). -/
def frOf : Option Nat → Int
  | none => -1
  | some f => (f : Int)
def curOf (s : ByteArray) (i : Nat) : Option Nat → Option (List UInt8)
  | none => none
  | some f => some (((bs s).drop f).take (i - f))
theorem ref_parse_l (s : ByteArray) (hs : s.size ≤ 1000) (hn : bs s ≠ [47]) : ∀ g i (o : Option Nat) (out : List ByteArray) k, i + g = s.size → 2 * g + 60 ≤ k → out.length ≤ i → (∀ f, o = some f → 0 < f ∧ f ≤ i) →
    P.moatref13_Parse.l0 k s out (frOf o) (i : Int) = some (ans (chk (bs s) (out ++ sp ((bs s).drop i) (curOf s i o)))) := by
  intro g
  induction g with
  | zero =>
    intro i o out k hi hk ho hf
    obtain ⟨k, rfl⟩ : ∃ j, k = j + 1 := ⟨k - 1, by omega⟩
    have hil : i = s.size := by omega
    subst hil
    unfold P.moatref13_Parse.l0
    (try dsimp only)
    rw [if_neg (by omega), List.drop_of_length_le (by rw [← size_bs]; omega)]
    have hb : (s.toList != [47]) = true := by rw [toList_bs]; exact bne_iff_ne.2 hn
    cases o with
    | none =>
      rw [if_neg (by simp [frOf])]
      have := j2_f s out 0 (by omega) (by omega) k (by omega) false
      have hz : P.moatref13_Parse.j2 k s out (frOf none) false = P.moatref13_Parse.j2 k s out ((0 : Nat) : Int) false := by
        obtain ⟨k, rfl⟩ : ∃ j, k = j + 1 := ⟨k - 1, by omega⟩
        unfold P.moatref13_Parse.j2
        (try dsimp only)
        rw [if_neg (by decide), if_neg (by decide)]
      rw [hz, this]
      simp [curOf, sp]
    | some f =>
      obtain ⟨f0, f1⟩ := hf f rfl
      rw [if_pos (by simp [frOf]; omega), hb]
      have := j2_f s out f f1 (by omega) k (by omega) true
      rw [show frOf (some f) = (f : Int) from rfl, this, if_pos rfl, extract_ba]
      rfl
  | succ g ih =>
    intro i o out k hi hk ho hf
    obtain ⟨k, rfl⟩ : ∃ j, k = j + 2 := ⟨k - 2, by omega⟩
    have h1 : i < s.size := by omega
    have hw : wrap64 ((i : Int) + 1) = ((i + 1 : Nat) : Int) := by unfold wrap64; omega
    unfold P.moatref13_Parse.l0
    (try dsimp only)
    rw [if_pos (by omega), if_pos (by omega), drop_cons s i h1]
    by_cases h4 : s[i]'h1 = 47
    · rw [if_pos ((bt_47 s i h1).2 h4), h4]
      cases o with
      | none =>
        rw [show decide (frOf none ≥ 0) = false by simp [frOf]]
        unfold P.moatref13_Parse.j1
        (try dsimp only)
        rw [if_neg (by decide), if_pos (by omega), if_pos (by omega), if_pos ((bt_47 s i h1).2 h4), hw]
        have := ih (i + 1) (some (i + 1)) out k (by omega) (by omega) (by omega) (fun f e => by injection e with e; omega)
        rw [show frOf (some (i + 1)) = ((i + 1 : Nat) : Int) from rfl] at this
        rw [this]
        conv => rhs; unfold sp
        rw [if_pos rfl]
        simp [curOf]
      | some f =>
        obtain ⟨f0, f1⟩ := hf f rfl
        rw [show decide (frOf (some f) ≥ 0) = true by simp [frOf]]
        unfold P.moatref13_Parse.j1
        (try dsimp only)
        rw [if_pos rfl, show frOf (some f) = (f : Int) from rfl, if_pos (by omega), if_pos (by omega), if_pos (by omega), if_pos (by omega), Option.bind_some, if_pos (by omega), if_pos (by omega), if_pos ((bt_47 s i h1).2 h4), hw, Int.toNat_natCast, Int.toNat_natCast]
        have := ih (i + 1) (some (i + 1)) (out ++ [s.extract f i]) k (by omega) (by omega) (by simp; omega) (fun f e => by injection e with e; omega)
        rw [show frOf (some (i + 1)) = ((i + 1 : Nat) : Int) from rfl] at this
        rw [this]
        conv => rhs; unfold sp
        rw [if_pos rfl, extract_ba]
        simp [curOf]
    · rw [if_neg (fun e => h4 ((bt_47 s i h1).1 e))]
      unfold P.moatref13_Parse.j1
      (try dsimp only)
      rw [if_neg (by decide), if_pos (by omega), if_pos (by omega), if_neg (fun e => h4 ((bt_47 s i h1).1 e)), hw]
      rw [ih (i + 1) o out k (by omega) (by omega) (by omega) (fun f e => by have := hf f e; omega)]
      conv => rhs; unfold sp
      rw [if_neg h4]
      cases o with
      | none => rfl
      | some f =>
        obtain ⟨f0, f1⟩ := hf f rfl
        simp only [curOf, Option.map_some]
        rw [take_grow s f i f1 h1]

theorem ref_root (k : Nat) (hk : 60 ≤ k) (s : ByteArray) (h : bs s = [47]) : P.moatref13_Parse.f k s = some (ans (some [])) := by
  have hz : s.size = 1 := by rw [size_bs, h]; rfl
  have h4 : bt s 0 = 47 := by
    have := (bt_47 s 0 (by omega)).2 (by
      have e : (bs s)[0]? = some 47 := by rw [h]; rfl
      have : (bs s)[0]? = some (s[0]'(by omega)) := by
        unfold bs
        rw [Array.getElem?_toList, Array.getElem?_eq_getElem (by show 0 < s.size; omega)]
        rfl
      rw [this] at e
      exact Option.some.inj e)
    simpa using this
  obtain ⟨k, rfl⟩ : ∃ j, k = j + 3 := ⟨k - 3, by omega⟩
  unfold P.moatref13_Parse.f P.moatref13_Parse.l0
  (try dsimp only)
  rw [if_pos (by omega), if_pos (by omega), if_pos h4, show decide ((-1 : Int) ≥ 0) = false by decide]
  unfold P.moatref13_Parse.j1
  (try dsimp only)
  rw [if_neg (by decide), if_pos (by omega), if_pos (by omega), if_pos h4, show wrap64 (0 + 1) = ((1 : Nat) : Int) by unfold wrap64; omega]
  unfold P.moatref13_Parse.l0
  (try dsimp only)
  rw [if_neg (by omega), if_pos (by decide), show (s.toList != [47]) = false by rw [toList_bs, h]; rfl]
  rw [j2_f s [] 1 (by omega) (by decide) k (by omega) false, h]
  rfl

theorem ref_parse (s : ByteArray) (hs : s.size ≤ 1000) (k : Nat) (hk : 2100 ≤ k) : P.moatref13_Parse.f k s = some (ans (parseO (bs s))) := by
  by_cases h : bs s = [47]
  · rw [ref_root k (by omega) s h, h, p_root]
  · unfold P.moatref13_Parse.f
    have := ref_parse_l s hs h s.size 0 none [] k (by omega) (by omega) (by simp) (by simp)
    rw [show frOf none = -1 from rfl, List.drop_zero, List.nil_append, show curOf s 0 none = none from rfl, chk_sp _ h] at this
    exact this
end Go.Proofs.Ytljddpnnfdaplaa.Pl
