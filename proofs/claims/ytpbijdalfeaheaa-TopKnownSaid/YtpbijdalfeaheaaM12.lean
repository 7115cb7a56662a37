/- Walks and plain laws on which the claim stands, several texts joined. -/
import Derived.Test.YtpbijdalfeaheaaM6
import Derived.Test.YtpbijdalfeaheaaM10
import Derived.Test.YtpbijdalfeaheaaM11

/- What a crash leaves of a commit: nothing of it that counts, or what can be done again, or all of it. -/
namespace Go.Proofs.Ytpbijdalfeaheaa.Tf
open Go.RowKit Go.Proofs.YtpbijdalfeaheaaW.PrintWords Go.Proofs.YtpbijdalfeaheaaW.PrintLast Go.Proofs.YtpbijdalfeaheaaW.PrintMore
set_option linter.unusedVariables false
set_option linter.unusedSimpArgs false
/-- Sectors from a on. -/
def pat : Nat → List (List Int) → List (Nat × List Int)
  | _, [] => []
  | a, v :: vs => (a, v) :: pat (a + 1) vs
theorem pat_len : ∀ (vs : List (List Int)) (a : Nat), (pat a vs).length = vs.length := by
  intro vs
  induction vs with
  | nil => intro a; rfl
  | cons v vs ih => intro a; simp [pat, ih]
theorem pat_snd : ∀ (vs : List (List Int)) (a : Nat), (pat a vs).map (·.2) = vs := by
  intro vs
  induction vs with
  | nil => intro a; rfl
  | cons v vs ih => intro a; simp [pat, ih]
theorem pat_key : ∀ (vs : List (List Int)) (a : Nat), ∀ x ∈ pat a vs, a ≤ x.1 ∧ x.1 < a + vs.length ∧ x.2 ∈ vs := by
  intro vs
  induction vs with
  | nil => intro a x hx; simp [pat] at hx
  | cons v vs ih =>
    intro a x hx
    rw [pat] at hx
    rcases List.mem_cons.1 hx with rfl | hx
    · exact ⟨Nat.le_refl _, by simp, List.mem_cons_self⟩
    · obtain ⟨h1, h2, h3⟩ := ih (a + 1) x hx
      exact ⟨by omega, by simp; omega, List.mem_cons_of_mem _ h3⟩
theorem setAll_nil (S : List (List Int)) : setAll S [] = S := rfl
theorem setAll_cons (S : List (List Int)) (x : Nat × List Int) (xs : List (Nat × List Int)) : setAll S (x :: xs) = setAll (S.set x.1 x.2) xs := rfl
theorem setAll_len : ∀ (xs : List (Nat × List Int)) (S : List (List Int)), (setAll S xs).length = S.length := by
  intro xs
  induction xs with
  | nil => intro S; rfl
  | cons x xs ih => intro S; rw [setAll_cons, ih, List.length_set]
theorem getD_set_ne (S : List (List Int)) (i j : Nat) (v : List Int) (h : i ≠ j) : (S.set i v).getD j [] = S.getD j [] := by
  rw [List.getD_eq_getElem?_getD, List.getD_eq_getElem?_getD, List.getElem?_set_ne h]
theorem getD_set_eq (S : List (List Int)) (i : Nat) (v : List Int) (h : i < S.length) : (S.set i v).getD i [] = v := by
  rw [List.getD_eq_getElem?_getD, List.getElem?_set_self h]; rfl
theorem setAll_out : ∀ (xs : List (Nat × List Int)) (S : List (List Int)) (i : Nat), (∀ x ∈ xs, x.1 ≠ i) → (setAll S xs).getD i [] = S.getD i [] := by
  intro xs
  induction xs with
  | nil => intro S i _; rfl
  | cons x xs ih =>
    intro S i h
    rw [setAll_cons, ih _ i (fun y hy => h y (List.mem_cons_of_mem _ hy)), getD_set_ne _ _ _ _ (h x List.mem_cons_self)]
theorem pat_in : ∀ (vs : List (List Int)) (a : Nat) (S : List (List Int)), a + vs.length ≤ S.length → ∀ j (hj : j < vs.length), (setAll S (pat a vs)).getD (a + j) [] = vs[j] := by
  intro vs
  induction vs with
  | nil => intro a S _ j hj; simp at hj
  | cons v vs ih =>
    intro a S h j hj
    rw [pat, setAll_cons]
    cases j with
    | zero =>
      rw [setAll_out _ _ _ (fun x hx => by have := (pat_key vs (a + 1) x hx).1; omega)]
      exact getD_set_eq S a v (by simp at h; omega)
    | succ j =>
      have := ih (a + 1) (S.set a v) (by simp at h ⊢; omega) j (by simpa using hj)
      rw [show a + (j + 1) = a + 1 + j by omega, this]
      rfl
theorem zip_pat : ∀ (ys : List (Nat × List Int)) (n : Nat), (ys.zipIdx n).map (fun x => (2 + x.2, x.1.2)) = pat (2 + n) (ys.map (·.2)) := by
  intro ys
  induction ys with
  | nil => intro n; rfl
  | cons y ys ih => intro n; rw [List.zipIdx_cons, List.map_cons, ih]; rfl
theorem laidL_pat (xs : List (Nat × List Int)) : laidL xs = pat 2 (listB xs :: xs.map (·.2)) := by
  unfold laidL setk
  rw [List.take_of_length_le (by simp), List.drop_of_length_le (by simp), List.append_nil, zip_pat]
  rfl
/-- What is waiting, as writes. -/
def ws2 (x : Nat × List Int × List Int) : Nat × List Int := (x.1, x.2.2)
theorem undo_snoc (ws : List (Nat × List Int × List Int)) (x : Nat × List Int × List Int) (S : List (List Int)) : undo (ws ++ [x]) S = undo ws (S.set x.1 x.2.1) := by
  unfold undo
  rw [List.reverse_append, List.foldl_append]
  rfl
theorem set_back (S : List (List Int)) (i : Nat) (s : List Int) : (S.set i s).set i (S.getD i []) = S := by
  rw [List.set_set]
  rcases Nat.lt_or_ge i S.length with h | h
  · rw [List.getD_eq_getElem?_getD, List.getElem?_eq_getElem h]; exact List.set_getElem_self h
  · exact List.set_eq_of_length_le h
theorem redo_sub (f : Nat → Bool) : ∀ (ws : List (Nat × List Int × List Int)) (n : Nat) (S : List (List Int)), ∃ ys, ys.Sublist (ws.map ws2) ∧ (ws.zipIdx n).foldl (fun S x => if f x.2 then S.set x.1.1 x.1.2.2 else S) S = setAll S ys := by
  intro ws
  induction ws with
  | nil => intro n S; exact ⟨[], List.nil_sublist _, rfl⟩
  | cons w ws ih =>
    intro n S
    rw [List.zipIdx_cons, List.foldl_cons]
    by_cases hf : f n = true
    · obtain ⟨ys, h1, h2⟩ := ih (n + 1) (S.set w.1 w.2.2)
      refine ⟨ws2 w :: ys, List.Sublist.cons_cons _ h1, ?_⟩
      simp only [hf, if_true]
      exact h2
    · obtain ⟨ys, h1, h2⟩ := ih (n + 1) S
      refine ⟨ys, List.Sublist.cons _ h1, ?_⟩
      simp only [hf]
      exact h2
theorem set_ok {S : List (List Int)} {i : Nat} {s : List Int} (h : Sok S) (hs : s.length = 64) : Sok (S.set i s) := by
  refine ⟨by rw [List.length_set]; exact h.1, fun x hx => ?_⟩
  rcases List.mem_or_eq_of_mem_set hx with hx | rfl
  · exact h.2 x hx
  · exact hs
/-- One list of writes. -/
theorem writeL_out : ∀ (xs : List (Nat × List Int)) (D : Dk) (S0 : List (List Int)), (∀ x ∈ xs, Pok x) → Sok D.secs → (∀ x ∈ D.waits, Wok x) → undo D.waits D.secs = S0 →
    ((writeL D xs).1 = true → (writeL D xs).2.secs = setAll D.secs xs ∧ (writeL D xs).2.waits = []) ∧
    ((writeL D xs).1 = false → ∃ zs, zs.Sublist xs ∧ (writeL D xs).2.waits.map ws2 = D.waits.map ws2 ++ zs ∧ undo (writeL D xs).2.waits (writeL D xs).2.secs = S0) ∧
    Sok (writeL D xs).2.secs ∧ (∀ x ∈ (writeL D xs).2.waits, Wok x) ∧ (writeL D xs).2.waits.length ≤ D.waits.length + xs.length := by
  intro xs
  induction xs with
  | nil =>
    intro D S0 hx hS hW h0
    by_cases hl : D.live = true
    · have e : writeL D [] = (true, { D.tick with waits := [] }) := by rw [writeL, if_pos hl]
      rw [e]
      exact ⟨fun _ => ⟨rfl, rfl⟩, (fun h => by cases h), hS, (fun x hx => by cases hx), Nat.zero_le _⟩
    · have e : writeL D [] = (false, D.off) := by rw [writeL, if_neg hl]
      rw [e]
      exact ⟨(fun h => by cases h), fun _ => ⟨[], List.Sublist.refl _, (List.append_nil _).symm, h0⟩, hS, hW, Nat.le_refl _⟩
  | cons x xs ih =>
    intro D S0 hx hS hW h0
    by_cases hl : D.live = true
    · have e : writeL D (x :: xs) = writeL (D.tick.put x.1 x.2) xs := by rw [writeL, if_pos hl]
      have hxo := hx x List.mem_cons_self
      have hmem : (D.secs.getD x.1 []).length = 64 := by
        rw [List.getD_eq_getElem?_getD, List.getElem?_eq_getElem (by rw [hS.1]; exact hxo.1)]
        exact hS.2 _ (List.getElem_mem _)
      obtain ⟨i1, i2, i3, i4, i5⟩ := ih (D.tick.put x.1 x.2) S0 (fun y hy => hx y (List.mem_cons_of_mem _ hy)) (set_ok hS hxo.2) (fun y hy => by
        rcases List.mem_append.1 hy with hy | hy
        · exact hW y hy
        · rw [List.mem_singleton.1 hy]; exact ⟨hxo.1, hmem, hxo.2⟩) (by
          show undo (D.waits ++ [(x.1, D.secs.getD x.1 [], x.2)]) (D.secs.set x.1 x.2) = S0
          rw [undo_snoc, set_back, h0])
      rw [e]
      refine ⟨fun h => ⟨(i1 h).1, (i1 h).2⟩, fun h => ?_, i3, i4, ?_⟩
      · obtain ⟨zs, z1, z2, z3⟩ := i2 h
        refine ⟨x :: zs, List.Sublist.cons_cons _ z1, ?_, z3⟩
        rw [z2]
        show (D.waits ++ [(x.1, D.secs.getD x.1 [], x.2)]).map ws2 ++ zs = _
        rw [List.map_append, List.append_assoc]
        rfl
      · refine Nat.le_trans i5 ?_
        show (D.waits ++ [(x.1, D.secs.getD x.1 [], x.2)]).length + xs.length ≤ _
        simp; omega
    · have e : writeL D (x :: xs) = (false, D.off) := by rw [writeL, if_neg hl]
      rw [e]
      exact ⟨(fun h => by cases h), fun _ => ⟨[], List.nil_sublist _, (List.append_nil _).symm, h0⟩, hS, hW, by show D.waits.length ≤ _; omega⟩
/-- What is there when the power has failed: some of the writes that were not safe. -/
def After (D : Dk) (S : List (List Int)) : Prop := ∃ f : Nat → Bool, S = redo f D.waits (undo D.waits D.secs)
structure Out (D : Dk) (xs : List (Nat × List Int)) : Prop where
  yes : (writeL D xs).1 = true → (writeL D xs).2.secs = setAll D.secs xs ∧ (writeL D xs).2.waits = []
  no : (writeL D xs).1 = false → ∀ S, After (writeL D xs).2 S → ∃ ys, ys.Sublist xs ∧ S = setAll D.secs ys
  secs : Sok (writeL D xs).2.secs
  waits : ∀ x ∈ (writeL D xs).2.waits, Wok x
  few : (writeL D xs).2.waits.length ≤ xs.length
theorem write_out (D : Dk) (xs : List (Nat × List Int)) (hx : ∀ x ∈ xs, Pok x) (hS : Sok D.secs) (hW : D.waits = []) : Out D xs := by
  obtain ⟨h1, h2, h3, h4, h5⟩ := writeL_out xs D D.secs hx hS (by rw [hW]; intro x hx; cases hx) (by rw [hW]; rfl)
  refine ⟨h1, fun h S hA => ?_, h3, h4, by rw [hW] at h5; simpa using h5⟩
  obtain ⟨zs, z1, z2, z3⟩ := h2 h
  obtain ⟨f, rfl⟩ := hA
  obtain ⟨ys, y1, y2⟩ := redo_sub f (writeL D xs).2.waits 0 (undo (writeL D xs).2.waits (writeL D xs).2.secs)
  rw [z2, hW] at y1
  refine ⟨ys, y1.trans z1, ?_⟩
  rw [z3] at y2
  rw [z3]
  exact y2
end Go.Proofs.Ytpbijdalfeaheaa.Tf

/- The plain law: whatever the crash leaves of the second commit. -/
namespace Go.Proofs.Ytpbijdalfeaheaa.Tf
open Go.RowKit Go.Proofs.YtpbijdalfeaheaaW.PrintWords Go.Proofs.YtpbijdalfeaheaaW.PrintLast Go.Proofs.YtpbijdalfeaheaaW.PrintMore
set_option linter.unusedVariables false
set_option linter.unusedSimpArgs false
theorem sub1 {α : Type} {a : α} {ys : List α} (h : ys.Sublist [a]) : ys = [] ∨ ys = [a] := by
  cases h with
  | cons _ h => exact .inl (List.sublist_nil.1 h)
  | cons_cons _ h => exact .inr (by rw [List.sublist_nil.1 h])
/-- The four steps of a commit. -/
def S1 (S : List (List Int)) (xs : List (Nat × List Int)) : List (List Int) := setAll S (laidL xs)
def S2 (S : List (List Int)) (seq : Int) (xs : List (Nat × List Int)) : List (List Int) := setAll (S1 S xs) [(1, headB (seq + 1) 9)]
def S3 (S : List (List Int)) (seq : Int) (xs : List (Nat × List Int)) : List (List Int) := setAll (S2 S seq xs) xs
def S4 (S : List (List Int)) (seq : Int) (xs : List (Nat × List Int)) : List (List Int) := setAll (S3 S seq xs) [(1, headB (seq + 1) 0)]
theorem S1_len (S : List (List Int)) (xs : List (Nat × List Int)) : (S1 S xs).length = S.length := setAll_len _ _
theorem S2_len (S : List (List Int)) (q : Int) (xs : List (Nat × List Int)) : (S2 S q xs).length = S.length := (setAll_len _ _).trans (S1_len _ _)
theorem S3_len (S : List (List Int)) (q : Int) (xs : List (Nat × List Int)) : (S3 S q xs).length = S.length := (setAll_len _ _).trans (S2_len _ _ _)
theorem S4_len (S : List (List Int)) (q : Int) (xs : List (Nat × List Int)) : (S4 S q xs).length = S.length := (setAll_len _ _).trans (S3_len _ _ _)
/-- What can be done again. -/
structure Again (S : List (List Int)) (q : Int) (xs : List (Nat × List Int)) : Prop where
  head : S.getD 1 [] = headB q 9
  list : S.getD 2 [] = listB xs
  all : ∀ k (hk : k < xs.length), S.getD (3 + k) [] = xs[k].2
theorem laid_key {xs : List (Nat × List Int)} (hn : xs.length = 9) : ∀ x ∈ laidL xs, 2 ≤ x.1 ∧ x.1 < 12 := by
  intro x hx
  rw [laidL_pat] at hx
  obtain ⟨h1, h2, _⟩ := pat_key _ _ x hx
  refine ⟨h1, ?_⟩
  simp [hn] at h2
  exact h2
theorem S1_has {S : List (List Int)} {xs : List (Nat × List Int)} (hS : S.length = 88) (hn : xs.length = 9) : (S1 S xs).getD 2 [] = listB xs ∧ ∀ k (hk : k < xs.length), (S1 S xs).getD (3 + k) [] = xs[k].2 := by
  have hl : (listB xs :: xs.map (·.2)).length = 10 := by simp [hn]
  unfold S1
  rw [laidL_pat]
  refine ⟨?_, fun k hk => ?_⟩
  · have := pat_in (listB xs :: xs.map (·.2)) 2 S (by omega) 0 (by omega)
    exact this
  · have := pat_in (listB xs :: xs.map (·.2)) 2 S (by omega) (k + 1) (by omega)
    rw [show 3 + k = 2 + (k + 1) by omega, this]
    simp
theorem again_step {S : List (List Int)} {q : Int} {xs ys : List (Nat × List Int)} (h : Again S q xs) (hn : xs.length = 9) (hy : ∀ y ∈ ys, 31 ≤ y.1) : Again (setAll S ys) q xs :=
  ⟨by rw [setAll_out _ _ _ (fun y h => by have := hy y h; omega)]; exact h.head, by rw [setAll_out _ _ _ (fun y h => by have := hy y h; omega)]; exact h.list, fun k hk => by rw [setAll_out _ _ _ (fun y h => by have := hy y h; omega)]; exact h.all k hk⟩
theorem S2_again {S : List (List Int)} (q : Int) {xs : List (Nat × List Int)} (hS : S.length = 88) (hn : xs.length = 9) : Again (S2 S q xs) (q + 1) xs := by
  obtain ⟨h2, h3⟩ := S1_has hS hn
  have ho : ∀ i, i ≠ 1 → (S2 S q xs).getD i [] = (S1 S xs).getD i [] := fun i hi => setAll_out _ _ _ (fun x hx => by rw [List.mem_singleton.1 hx]; exact fun e => hi e.symm)
  refine ⟨getD_set_eq _ 1 _ (by rw [S1_len, hS]; decide), ?_, fun k hk => ?_⟩
  · rw [ho 2 (by decide), h2]
  · rw [ho _ (by omega), h3 k hk]
/-- What is left of a second commit. -/
inductive Left (b : Bool) (S0 : List (List Int)) (q : Int) (vs : List (List Int)) (S : List (List Int)) : Prop
  | old : b = false → S.getD 1 [] = S0.getD 1 [] → (∀ j, j < 9 → S.getD (31 + j) [] = S0.getD (31 + j) []) → Left b S0 q vs S
  | mid : b = false → Again S (q + 1) (pat 31 vs) → Left b S0 q vs S
  | new : S.getD 1 [] = headB (q + 1) 0 → (∀ j (hj : j < vs.length), S.getD (31 + j) [] = vs[j]) → Left b S0 q vs S
theorem S4_new {S : List (List Int)} (q : Int) {vs : List (List Int)} (hS : S.length = 88) (hv : vs.length = 9) : (S4 S q (pat 31 vs)).getD 1 [] = headB (q + 1) 0 ∧ ∀ j (hj : j < vs.length), (S4 S q (pat 31 vs)).getD (31 + j) [] = vs[j] := by
  refine ⟨getD_set_eq _ 1 _ (by rw [S3_len, hS]; decide), fun j hj => ?_⟩
  have h1 : (S4 S q (pat 31 vs)).getD (31 + j) [] = (S3 S q (pat 31 vs)).getD (31 + j) [] := setAll_out _ _ _ (fun x hx => by rw [List.mem_singleton.1 hx]; show 1 ≠ 31 + j; omega)
  rw [h1]
  exact pat_in vs 31 (S2 S q (pat 31 vs)) (by rw [S2_len]; omega) j hj
theorem pat_nine {vs : List (List Int)} (hv : vs.length = 9) (hb : ∀ v ∈ vs, v.length = 64) : Nine (pat 31 vs) := fun x hx => by
  obtain ⟨h1, h2, h3⟩ := pat_key vs 31 x hx
  exact ⟨h1, by omega, hb _ h3⟩
structure Ran (D : Dk) (q : Int) (vs : List (List Int)) (r : Bool × Dk) : Prop where
  secs : Sok r.2.secs
  waits : ∀ x ∈ r.2.waits, Wok x
  few : r.2.waits.length ≤ 4096
  left : ∀ S, After r.2 S → Left r.1 D.secs q vs S
theorem after_nil {D : Dk} {S : List (List Int)} (hw : D.waits = []) (h : After D S) : S = D.secs := by
  obtain ⟨f, rfl⟩ := h
  rw [hw]
  rfl
theorem ran (D : Dk) (q : Int) (vs : List (List Int)) (hv : vs.length = 9) (hb : ∀ v ∈ vs, v.length = 64) (hS : Sok D.secs) (hW : D.waits = []) : Ran D q vs (runL D (partsL q (pat 31 vs))) := by
  have hn : (pat 31 vs).length = 9 := by rw [pat_len]; exact hv
  have hN := pat_nine hv hb
  have hh : ∀ c, ∀ x ∈ [(1, headB (q + 1) c)], Pok x := fun c x hx => by rw [List.mem_singleton.1 hx]; exact ⟨by show 1 < 88; decide, headB_len _ _⟩
  have O1 := write_out D (laidL (pat 31 vs)) (laidL_pok hN hn) hS hW
  have hl1 : (laidL (pat 31 vs)).length = 10 := by rw [laidL_pat, pat_len]; simp [hn]
  unfold partsL
  rw [runL_cons]
  by_cases c1 : (writeL D (laidL (pat 31 vs))).1 = true
  · rw [if_pos c1]
    obtain ⟨s1, w1⟩ := O1.yes c1
    have k1 := O1.secs
    obtain ⟨D1, hD1⟩ : ∃ x, (writeL D (laidL (pat 31 vs))).2 = x := ⟨_, rfl⟩
    rw [hD1] at s1 w1 k1 ⊢
    have O2 := write_out D1 [(1, headB (q + 1) 9)] (hh 9) k1 w1
    rw [runL_cons]
    by_cases c2 : (writeL D1 [(1, headB (q + 1) 9)]).1 = true
    · rw [if_pos c2]
      obtain ⟨s2, w2⟩ := O2.yes c2
      have k2 := O2.secs
      obtain ⟨D2, hD2⟩ : ∃ x, (writeL D1 [(1, headB (q + 1) 9)]).2 = x := ⟨_, rfl⟩
      rw [hD2] at s2 w2 k2 ⊢
      have e2 : D2.secs = S2 D.secs q (pat 31 vs) := by rw [s2, s1]; rfl
      have O3 := write_out D2 (pat 31 vs) hN.pok k2 w2
      rw [runL_cons]
      by_cases c3 : (writeL D2 (pat 31 vs)).1 = true
      · rw [if_pos c3]
        obtain ⟨s3, w3⟩ := O3.yes c3
        have k3 := O3.secs
        obtain ⟨D3, hD3⟩ : ∃ x, (writeL D2 (pat 31 vs)).2 = x := ⟨_, rfl⟩
        rw [hD3] at s3 w3 k3 ⊢
        have e3 : D3.secs = S3 D.secs q (pat 31 vs) := by rw [s3, e2]; rfl
        have O4 := write_out D3 [(1, headB (q + 1) 0)] (hh 0) k3 w3
        rw [runL_cons]
        by_cases c4 : (writeL D3 [(1, headB (q + 1) 0)]).1 = true
        · rw [if_pos c4]
          obtain ⟨s4, w4⟩ := O4.yes c4
          have k4 := O4.secs
          obtain ⟨D4, hD4⟩ : ∃ x, (writeL D3 [(1, headB (q + 1) 0)]).2 = x := ⟨_, rfl⟩
          rw [hD4] at s4 w4 k4 ⊢
          have e4 : D4.secs = S4 D.secs q (pat 31 vs) := by rw [s4, e3]; rfl
          refine ⟨k4, ?_, ?_, fun S hA => ?_⟩
          · show ∀ x ∈ D4.waits, Wok x
            rw [w4]
            intro x hx
            exact absurd hx List.not_mem_nil
          · show D4.waits.length ≤ 4096
            rw [w4]
            exact Nat.zero_le _
          rw [after_nil w4 hA, e4]
          obtain ⟨n1, n2⟩ := S4_new q hS.1 hv
          exact .new n1 n2
        · rw [if_neg c4]
          have cf : (writeL D3 [(1, headB (q + 1) 0)]).1 = false := by simpa using c4
          refine ⟨O4.secs, O4.waits, Nat.le_trans O4.few (by simp), fun S hA => ?_⟩
          obtain ⟨ys, hy, rfl⟩ := O4.no cf S hA
          rw [e3]
          rcases sub1 hy with rfl | rfl
          · exact .mid rfl (again_step (ys := pat 31 vs) (S2_again q hS.1 hn) hn (fun y hy => (hN y hy).1))
          · obtain ⟨n1, n2⟩ := S4_new q hS.1 hv
            exact .new n1 n2
      · rw [if_neg c3]
        have cf : (writeL D2 (pat 31 vs)).1 = false := by simpa using c3
        refine ⟨O3.secs, O3.waits, Nat.le_trans O3.few (by omega), fun S hA => ?_⟩
        obtain ⟨ys, hy, rfl⟩ := O3.no cf S hA
        rw [e2]
        exact .mid rfl (again_step (S2_again q hS.1 hn) hn (fun y h => (hN y (hy.subset h)).1))
    · rw [if_neg c2]
      have cf : (writeL D1 [(1, headB (q + 1) 9)]).1 = false := by simpa using c2
      refine ⟨O2.secs, O2.waits, Nat.le_trans O2.few (by simp), fun S hA => ?_⟩
      obtain ⟨ys, hy, rfl⟩ := O2.no cf S hA
      rw [s1]
      rcases sub1 hy with rfl | rfl
      · refine .old rfl ?_ (fun j hj => ?_)
        · exact setAll_out (laidL (pat 31 vs)) _ _ (fun x hx => by have := laid_key hn x hx; omega)
        · exact setAll_out (laidL (pat 31 vs)) _ _ (fun x hx => by have := laid_key hn x hx; omega)
      · exact .mid rfl (S2_again q hS.1 hn)
  · rw [if_neg c1]
    have cf : (writeL D (laidL (pat 31 vs))).1 = false := by simpa using c1
    refine ⟨O1.secs, O1.waits, Nat.le_trans O1.few (by omega), fun S hA => ?_⟩
    obtain ⟨ys, hy, rfl⟩ := O1.no cf S hA
    refine .old rfl ?_ (fun j hj => ?_)
    · exact setAll_out _ _ _ (fun x hx => by have := laid_key hn x (hy.subset hx); omega)
    · exact setAll_out _ _ _ (fun x hx => by have := laid_key hn x (hy.subset hx); omega)
/-- A commit while the power is on. -/
theorem runs_on (D : Dk) (q : Int) (xs : List (Nat × List Int)) (hd : D.dead = false) (hf : D.fuse = -1) : runL D (partsL q xs) = (true, { secs := S4 D.secs q xs, waits := [], dead := false, fuse := -1 }) := by
  unfold partsL
  rw [runL_cons, writeL_all _ D hd hf, if_pos rfl, runL_cons, writeL_all _ _ rfl rfl, if_pos rfl, runL_cons, writeL_all _ _ rfl rfl, if_pos rfl, runL_cons, writeL_all _ _ rfl rfl, if_pos rfl]
  rfl
end Go.Proofs.Ytpbijdalfeaheaa.Tf

/- TopKnown's closure lay: the patches of what is known. -/
namespace Go.Proofs.Ytpbijdalfeaheaa.Tf
open Go.RowKit Go.Proofs.YtpbijdalfeaheaaW.PrintWords Go.Proofs.YtpbijdalfeaheaaW.PrintLast Go.Proofs.YtpbijdalfeaheaaW.PrintMore
set_option linter.unusedVariables false
set_option linter.unusedSimpArgs false
theorem patch_one (cs : Array Value) (W : World) (hc : cs.size = 3 := by rfl) : (Instr.buildSlice 43 1 #[(0, .agg cs)]).run Try.prog W = .ok (.slice (some ⟨W.heap.size, 0, none⟩) 1 1) (W.alloc (.cells cs 50)) :=
  build_one 43 50 _ 3 40 Try.underlying43 info_patch rfl (by decide) (by decide) cs hc W
theorem pat_at : ∀ (vs : List (List Int)) (a k : Nat) (h : k < vs.length), (pat a vs).take (k + 1) = (pat a vs).take k ++ [(a + k, vs[k])] := by
  intro vs
  induction vs with
  | nil => intro a k h; simp at h
  | cons v vs ih =>
    intro a k h
    cases k with
    | zero => simp [pat]
    | succ k =>
      have := ih (a + 1) k (by simpa using h)
      rw [pat, List.take_succ_cons, this, show a + 1 + k = a + (k + 1) by omega]
      rfl
set_option maxHeartbeats 4000000 in
set_option maxRecDepth 100000 in
theorem laycl_any (ok : Nat → Prop) (A0 : Addr) (c0 : Nat) (A1 : Addr) (c1 : Nat) (A2 : Addr) (c2 : Nat) (A3 : Addr) (c3 : Nat) (M : Mt) (gg gl : Nat) (w : World) (h : MetaF w ok A0 c0 A1 c1 A2 c2 A3 c3 M) (hM : MtOk M)
    (hg : w.heap[gg]? = some (.cells #[.int .i64 30, .int .i64 12, .int .i64 6, .int .i64 8] 25 (0, 0))) (hl : w.heap[gl]? = some (.cells layC 28 (0, 0))) :
    Calls Try.prog 7 #[.agg (metaC A0 c0 A1 c1 A2 c2 A3 c3), .pointer (some ⟨gg, 0, none⟩), .pointer (some ⟨gl, 0, none⟩)] w fun e w' => ∃ g c, e = .returned (.slice (some ⟨g, 0, none⟩) 9 c) ∧ 9 ≤ c ∧ Kd.F PK w' (fun k => w.heap.size ≤ k) (some ⟨g, 0, none⟩) 9 (pat 31 (metaB M)) ∧ Below w.heap.size w w' := by
  have HM := Lib.hid hM
  have HF := Lib.hid h
  have HN := Lib.hid (metaB_len hM)
  clear h hM
  unfold metaC
  go_enter Try.func7, Try.ntmps7
  have y0 : ∀ o, (w.alloc o).cell? ⟨gg, 0, none⟩ = some (.int .i64 30) := fun o => blk_cell (blk_alloc hg o) 0
  have y1 : ∀ o, (w.alloc o).cell? ⟨gg, 1, none⟩ = some (.int .i64 12) := fun o => blk_cell (blk_alloc hg o) 1
  have y2 : ∀ o, (w.alloc o).cell? ⟨gg, 2, none⟩ = some (.int .i64 6) := fun o => blk_cell (blk_alloc hg o) 2
  have y3 : ∀ o, (w.alloc o).cell? ⟨gg, 3, none⟩ = some (.int .i64 8) := fun o => blk_cell (blk_alloc hg o) 3
  go_wp2_with fail
  clear y0 y1 y2 y3
  obtain ⟨w1, hw1⟩ : ∃ w1, w.alloc (Obj.cells #[.slice (some A0) 16 c0, .slice (some A1) 6 c1, .slice (some A2) 64 c2, .slice (some A3) 12 c3] 36) = w1 := ⟨_, rfl⟩
  have hB1 : Below w.heap.size w w1 := by rw [← hw1]; exact below_alloc (Below.refl _ _) _
  rw [hw1]
  clear hw1
  have HL := Lib.hid (blk_below hl hB1)
  have HB1 := Lib.hid hB1
  have HW1 := Lib.hid hB1.size
  clear hg hl hB1
  refine (metalay_any _ A0 c0 A1 c1 A2 c2 A3 c3 M w1 (HF.out.below HB1.out) HM.out).mono ?_
  rintro e ws ⟨v, rfl, ⟨rows, hR, hS⟩, hBs⟩
  have hrl : rows.length = 9 := by rw [hS.1, tagB, List.length_map, metaB_len HM.out]
  obtain ⟨gv, cv, rfl⟩ := R_some hR (by omega)
  rw [hrl]
  have hC : SL.C ws (some ⟨gv, 0, none⟩) 9 rows := by
    obtain ⟨A, c, e, _, h⟩ := Kd.R_reads hR
    rw [hrl] at e h
    injection e with e1 e2 e3
    rw [← e1] at h
    exact h
  have HC := Lib.hid hC
  have HS := Lib.hid hS
  have HBs := Lib.hid (below_step HB1.out hBs)
  have HL2 := Lib.hid (blk_below HL.out hBs)
  clear hR hC hS hBs hrl HB1 HL
  go_wp2_with fail
  go_loopg [5, 17] 9 (fun q v5 i wr => ∃ k rws, k + q = 9 ∧ i = .int .i64 (k : Int) ∧ Hid (RP.R 50 wr ws.heap.size (fun _ => True) v5 rws) ∧ Hid (Says ws (okT w1.heap.size ws) rws ((pat 31 (metaB M)).take k)) ∧ Hid (Below ws.heap.size ws wr))
  case atStart => exact ⟨0, [], rfl, rfl, Lib.hid (Kd.R_nil _ _ _ _ _), Lib.hid (Says.nil _ _), Lib.hid (Below.refl _ _)⟩
  case round =>
    obtain ⟨k, rws, hq, rfl, hR, hS, hB⟩ := hrel
    cases gk with
    | zero =>
      obtain rfl : k = 9 := by omega
      have hS9 := hS.out
      rw [List.take_of_length_le (by rw [pat_len, HN.out]; exact Nat.le_refl _)] at hS9
      have hl9 : rws.length = 9 := by rw [hS9.1, pat_len, HN.out]
      obtain ⟨g, cap, rfl⟩ := R_some hR.out (by omega)
      rw [hl9]
      have hcap : 9 ≤ cap := by
        obtain ⟨A, c, e, h, _⟩ := Kd.R_reads hR.out
        rw [hl9] at e h
        injection e with e1 e2 e3
        omega
      have hRb := Kd.R_bound hR.out
      rw [hl9] at hRb
      have hFp := F_of_raw hRb (hS9.below hB.out)
      have hF := Lib.hid (Kd.F_mono (ok' := fun k => w.heap.size ≤ k) hFp (fun k hk => by
        have h1 := HBs.out.size
        rcases hk with hk | hk
        · exact Nat.le_trans HW1.out hk.1
        · exact Nat.le_trans h1 hk.2.1))
      have Hcap := Lib.hid hcap
      have HBB := Lib.hid (below_step HBs.out hB.out)
      clear hR hS hS9 hl9 hcap hRb hFp hB
      go_wp2_with fail
      go_ret
      exact ⟨g, cap, rfl, Hcap.out, hF.out, HBB.out⟩
    | succ q =>
      have d1 : decide ((k : Int) < 9) = true := decide_eq_true (by omega)
      have q0 : 0 ≤ (k : Int) := by omega
      have q1 : (k : Int) < 9 := by omega
      obtain ⟨a, c, hcell, hcc, hF, h64⟩ := sl_at HC.out HS.out k (by rw [HN.out]; omega)
      rw [add_plain] at hcell
      have hlay := HL2.out
      have L1 : Hid (∀ w', Below wr.heap.size wr w' → w'.cell? ⟨gl, 1, none⟩ = some (.int .i64 31)) := Lib.hid (fun w' hS => blk_cell (blk_below (blk_below hlay hB.out) hS) 1)
      have S1 : Hid (∀ w', Below wr.heap.size wr w' → w'.cell? ⟨gv, k, none⟩ = some (.slice (some a) 64 c)) := Lib.hid (fun w' hS => by
        have hb := below_step hB.out hS
        rw [hb.cell (World.block_lt_of_cell? ws _ hcell)]; exact hcell)
      have hkl : k < (metaB M).length := by rw [HN.out]; omega
      have hln : rws.length = k := by rw [hS.out.1, List.length_take, pat_len, HN.out]; omega
      have hraw : (rawC (31 + k, some a, c)).toArray = #[.int .i64 (31 + (k : Int)), .slice (some a) 64 c, .int .u16 0] := by
        unfold rawC
        rw [show ((31 + k : Nat) : Int) = 31 + (k : Int) by push_cast; rfl]
      have hnew := blk_new wr.drew (.cells (rawC (31 + k, some a, c)).toArray 50)
      obtain ⟨v7, w7, hap, hR7, hg7⟩ := RP_plain.append (wr.drew.alloc (.cells (rawC (31 + k, some a, c)).toArray 50)) ws.heap.size 43 43 50 _ 40 Try.underlying43 info_patch rfl (by decide) u5 rws [(31 + k, some a, c)] (Kd.R_below hR.out (below_alloc (below_drew (Below.refl _ _)) _)) (some ⟨wr.heap.size, 0, none⟩) 1 1 (by decide) (C_flat1 (enc := rawC) hnew rfl) (by omega) (by unfold maxLen; omega) (by have := hB.out.size; rw [World.size_alloc, heap_drew]; omega)
      have hB7 : Below ws.heap.size ws w7 := pw_below_grown (below_alloc (below_step hB.out (below_drew (Below.refl _ _))) _) _ (by have := hB.out.size; rw [World.size_alloc, heap_drew]; omega) hg7 (fun k hk => R_base' hR.out k hk)
      have hS7 : Says ws (okT w1.heap.size ws) (rws ++ [(31 + k, some a, c)]) ((pat 31 (metaB M)).take (k + 1)) := by
        rw [pat_at _ _ _ hkl]
        exact hS.out.append (Says.one rfl h64 hcc hF)
      rw [hraw] at hap
      have Hap := Lib.hid hap
      have HR7 := Lib.hid hR7
      have HB7 := Lib.hid hB7
      have HS7 := Lib.hid hS7
      clear hcell hcc hF h64 hlay hkl hln hraw hnew hap hR7 hg7 hB7 hS7 hR hS
      have s2 : wrap64 (31 + (k : Int)) = 31 + (k : Int) := by unfold wrap64; omega
      have s5 : IntKind.i64.wrap (31 + (k : Int)) = 31 + (k : Int) := by rw [i64_w]; exact s2
      go_wp2_with fail
      refine start_ (n := 13) (S := (fun W => Below wr.heap.size wr W)) (ds := [11]) #[false, false, false, false, false, false, false, false, false, false, false, false, false] (by kernel_rfl) rfl rfl (below_drew (Below.refl _ _)) (fun hHeld => ?_)
      refine pure_ (i := 0) (N := some 20) (v := ?_) (a' := ?_) #[true, false, false, false, false, false, false, false, false, false, false, false, false] rfl rfl (by kernel_rfl) (fun _ _ _ h => h) (Or.inl ⟨by rfl, ?_⟩) ?_ ?_
      rotate_left
      · intro w'
        go_simp
        with_reducible rfl
      rotate_left
      · simp only [Act.put, List.setIfInBounds_toArray, List.set_cons_zero, List.set_cons_succ, i64_w, i32_w]
        rfl
      refine pure_ (i := 1) (N := some 21) (v := ?_) (a' := ?_) #[true, true, false, false, false, false, false, false, false, false, false, false, false] rfl rfl (by kernel_rfl) (fun _ _ _ h => h) (Or.inl ⟨by rfl, ?_⟩) ?_ ?_
      rotate_left
      · intro w'
        go_simp
        with_reducible rfl
      rotate_left
      · simp only [Act.put, List.setIfInBounds_toArray, List.set_cons_zero, List.set_cons_succ, i64_w, i32_w]
        rfl
      refine take_ (i := 2) (N := some 22) (v := ?_) (a' := ?_) #[true, true, true, false, false, false, false, false, false, false, false, false, false] rfl rfl (by kernel_rfl) (fun _ _ _ h => h) (Or.inl ⟨by rfl, ?_⟩) hHeld ?_ ?_
      rotate_left
      · rintro w' hS
        have y := L1.out w' hS
        go_simp
        with_reducible rfl
      rotate_left
      · simp only [Act.put, List.setIfInBounds_toArray, List.set_cons_zero, List.set_cons_succ, i64_w, i32_w]
        rfl
      refine pure_ (i := 3) (N := some 23) (v := ?_) (a' := ?_) #[true, true, true, true, false, false, false, false, false, false, false, false, false] rfl rfl (by kernel_rfl) (fun _ _ _ h => h) (Or.inl ⟨by rfl, ?_⟩) ?_ ?_
      rotate_left
      · intro w'
        go_simp
        with_reducible rfl
      rotate_left
      · simp only [Act.put, List.setIfInBounds_toArray, List.set_cons_zero, List.set_cons_succ, i64_w, i32_w]
        rfl
      refine pure_ (i := 4) (N := some 24) (v := ?_) (a' := ?_) #[true, true, true, true, true, false, false, false, false, false, false, false, false] rfl rfl (by kernel_rfl) (fun _ _ _ h => h) (Or.inl ⟨by rfl, ?_⟩) ?_ ?_
      rotate_left
      · intro w'
        go_simp
        with_reducible rfl
      rotate_left
      · simp only [Act.put, List.setIfInBounds_toArray, List.set_cons_zero, List.set_cons_succ, i64_w, i32_w]
        rfl
      refine pure_ (i := 5) (N := some 25) (v := ?_) (a' := ?_) #[true, true, true, true, true, true, false, false, false, false, false, false, false] rfl rfl (by kernel_rfl) (fun _ _ _ h => h) (Or.inl ⟨by rfl, ?_⟩) ?_ ?_
      rotate_left
      · intro w'
        go_simp
        with_reducible rfl
      rotate_left
      · simp only [Act.put, List.setIfInBounds_toArray, List.set_cons_zero, List.set_cons_succ, i64_w, i32_w]
        rfl
      refine pure_ (i := 6) (N := some 26) (v := ?_) (a' := ?_) #[true, true, true, true, true, true, true, false, false, false, false, false, false] rfl rfl (by kernel_rfl) (fun _ _ _ h => h) (Or.inl ⟨by rfl, ?_⟩) ?_ ?_
      rotate_left
      · intro w'
        go_simp
        with_reducible rfl
      rotate_left
      · simp only [Act.put, List.setIfInBounds_toArray, List.set_cons_zero, List.set_cons_succ, i64_w, i32_w]
        rfl
      refine pure_ (i := 7) (N := some 27) (v := ?_) (a' := ?_) #[true, true, true, true, true, true, true, true, false, false, false, false, false] rfl rfl (by kernel_rfl) (fun _ _ _ h => h) (Or.inl ⟨by rfl, ?_⟩) ?_ ?_
      rotate_left
      · intro w'
        go_simp
        with_reducible rfl
      rotate_left
      · simp only [Act.put, List.setIfInBounds_toArray, List.set_cons_zero, List.set_cons_succ, i64_w, i32_w]
        rfl
      refine take_ (i := 8) (N := some 28) (v := ?_) (a' := ?_) #[true, true, true, true, true, true, true, true, true, false, false, false, false] rfl rfl (by kernel_rfl) (fun _ _ _ h => h) (Or.inl ⟨by rfl, ?_⟩) hHeld ?_ ?_
      rotate_left
      · rintro w' hS
        have y := S1.out w' hS
        go_simp
        with_reducible rfl
      rotate_left
      · simp only [Act.put, List.setIfInBounds_toArray, List.set_cons_zero, List.set_cons_succ, i64_w, i32_w]
        rfl
      refine pure_ (i := 9) (N := some 29) (v := .agg #[.int .i64 (31 + (k : Int)), .slice (some a) 64 c, .int .u16 0]) (a' := ?_) #[true, true, true, true, true, true, true, true, true, true, false, false, false] rfl rfl (by kernel_rfl) (fun _ _ _ h => h) (yields_build (by rfl) 50 #[(0, .tmp 24), (1, .tmp 28)] rfl _ #[.int .i64 (31 + (k : Int)), .slice (some a) 64 c, .int .u16 0] (by simp only [List.map_toArray, List.map_cons, List.map_nil]; rfl) (by kernel_rfl)) ?_ ?_
      rotate_left
      · simp only [Act.put, List.setIfInBounds_toArray, List.set_cons_zero, List.set_cons_succ, i64_w, i32_w]
        rfl
      refine one_ (i := 10) (N := some 30) #[true, true, true, true, true, true, true, true, true, true, true, false, false] rfl rfl (by kernel_rfl) (by decide) (fun K hK => ?_)
      refine value_ (by rfl) rfl (run_exec_buildSlice1 rfl rfl (patch_one _ wr.drew)) ?_
      refine hK.out _ _ (below_alloc hHeld _) (fun hHeld => ?_)
      clear hK K
      refine norm_ (a' := ?_) ?_ ?_
      rotate_left
      · show Act.put _ (some 30) _ = _
        simp only [Act.put, List.setIfInBounds_toArray, List.set_cons_zero, List.set_cons_succ, i64_w, i32_w]
        rfl
      refine last_ (i := 11) (N := some 31) #[true, true, true, true, true, true, true, true, true, true, true, true, false] rfl rfl (by kernel_rfl) (by decide) (fun K hK => ?_)
      refine value_ (by rfl) rfl (run_exec_append rfl rfl rfl Hap.out) ?_
      refine hK.out _ _ ?_
      clear hK K
      refine norm_ (a' := ?_) ?_ ?_
      rotate_left
      · show Act.put _ (some 31) _ = _
        simp only [Act.put, List.setIfInBounds_toArray, List.set_cons_zero, List.set_cons_succ, i64_w, i32_w]
        rfl
      refine pure_ (i := 12) (N := some 5) (v := ?_) (a' := ?_) #[true, true, true, true, true, true, true, true, true, true, true, true, true] rfl rfl (by kernel_rfl) (fun _ _ _ h => h) (Or.inl ⟨by rfl, ?_⟩) ?_ ?_
      rotate_left
      · intro w'
        go_simp
        with_reducible rfl
      rotate_left
      · simp only [Act.put, List.setIfInBounds_toArray, List.set_cons_zero, List.set_cons_succ, i64_w, i32_w]
        rfl
      refine done_ (by kernel_rfl) ?_
      go_wp2_with fail
      go_roundg q
      case measure => omega
      case rel => exact ⟨k + 1, _, by omega, by go_num, HR7, HS7, HB7⟩
end Go.Proofs.Ytpbijdalfeaheaa.Tf

/- TopKnown's closure same: two that are laid alike are the same. -/
namespace Go.Proofs.Ytpbijdalfeaheaa.Tf
open Go.RowKit Go.Proofs.YtpbijdalfeaheaaW.PrintWords Go.Proofs.YtpbijdalfeaheaaW.PrintLast Go.Proofs.YtpbijdalfeaheaaW.PrintMore
set_option linter.unusedVariables false
set_option linter.unusedSimpArgs false
/-- What same answers. -/
def SameP (w : World) (M M' : Mt) (e : Ending) (w' : World) : Prop := ∃ b, e = .returned (.bool b) ∧ (metaB M = metaB M' → b = true) ∧ Below w.heap.size w w'
set_option maxHeartbeats 4000000 in
set_option maxRecDepth 100000 in
theorem samecl_any (ok ok' : Nat → Prop) (xA0 : Addr) (xc0 : Nat) (xA1 : Addr) (xc1 : Nat) (xA2 : Addr) (xc2 : Nat) (xA3 : Addr) (xc3 : Nat) (M : Mt) (yA0 : Addr) (yc0 : Nat) (yA1 : Addr) (yc1 : Nat) (yA2 : Addr) (yc2 : Nat) (yA3 : Addr) (yc3 : Nat) (M' : Mt) (gg : Nat) (w : World) (h : MetaF w ok xA0 xc0 xA1 xc1 xA2 xc2 xA3 xc3 M) (hM : MtOk M) (h' : MetaF w ok' yA0 yc0 yA1 yc1 yA2 yc2 yA3 yc3 M') (hM' : MtOk M')
    (hg : w.heap[gg]? = some (.cells #[.int .i64 30, .int .i64 12, .int .i64 6, .int .i64 8] 25 (0, 0))) :
    Calls Try.prog 15 #[.agg (metaC xA0 xc0 xA1 xc1 xA2 xc2 xA3 xc3), .agg (metaC yA0 yc0 yA1 yc1 yA2 yc2 yA3 yc3), .pointer (some ⟨gg, 0, none⟩)] w (SameP w M M') := by
  have HM := Lib.hid hM
  have HF := Lib.hid h
  have HM' := Lib.hid hM'
  have HF' := Lib.hid h'
  have HN := Lib.hid (metaB_len hM)
  have HN' := Lib.hid (metaB_len hM')
  clear h hM h' hM'
  unfold metaC
  go_enter Try.func15, Try.ntmps15
  have y0 : ∀ o o', ((w.alloc o).alloc o').cell? ⟨gg, 0, none⟩ = some (.int .i64 30) := fun o o' => blk_cell (blk_alloc (blk_alloc hg o) o') 0
  have y1 : ∀ o o', ((w.alloc o).alloc o').cell? ⟨gg, 1, none⟩ = some (.int .i64 12) := fun o o' => blk_cell (blk_alloc (blk_alloc hg o) o') 1
  have y2 : ∀ o o', ((w.alloc o).alloc o').cell? ⟨gg, 2, none⟩ = some (.int .i64 6) := fun o o' => blk_cell (blk_alloc (blk_alloc hg o) o') 2
  have y3 : ∀ o o', ((w.alloc o).alloc o').cell? ⟨gg, 3, none⟩ = some (.int .i64 8) := fun o o' => blk_cell (blk_alloc (blk_alloc hg o) o') 3
  go_wp2_with fail
  clear y0 y1 y2 y3
  obtain ⟨w1, hw1⟩ : ∃ w1, (w.alloc (Obj.cells #[.slice (some xA0) 16 xc0, .slice (some xA1) 6 xc1, .slice (some xA2) 64 xc2, .slice (some xA3) 12 xc3] 36)).alloc (Obj.cells #[.slice (some yA0) 16 yc0, .slice (some yA1) 6 yc1, .slice (some yA2) 64 yc2, .slice (some yA3) 12 yc3] 36) = w1 := ⟨_, rfl⟩
  have hB1 : Below w.heap.size w w1 := by rw [← hw1]; exact below_alloc (below_alloc (Below.refl _ _) _) _
  have hm : w1.heap[w.heap.size + 1]? = some (.cells #[.slice (some yA0) 16 yc0, .slice (some yA1) 6 yc1, .slice (some yA2) 64 yc2, .slice (some yA3) 12 yc3] 36 (0, 0)) := by
    rw [← hw1]
    have := blk_new (w.alloc (Obj.cells #[.slice (some xA0) 16 xc0, .slice (some xA1) 6 xc1, .slice (some xA2) 64 xc2, .slice (some xA3) 12 xc3] 36)) (Obj.cells #[.slice (some yA0) 16 yc0, .slice (some yA1) 6 yc1, .slice (some yA2) 64 yc2, .slice (some yA3) 12 yc3] 36)
    simpa using this
  rw [hw1]
  clear hw1
  refine (metalay_any _ xA0 xc0 xA1 xc1 xA2 xc2 xA3 xc3 M w1 (HF.out.below hB1) HM.out).mono ?_
  rintro e w2 ⟨v, rfl, ⟨rows, hR, hS⟩, hB2⟩
  have hrl : rows.length = 9 := by rw [hS.1, tagB, List.length_map, metaB_len HM.out]
  obtain ⟨gv, cv, rfl⟩ := R_some hR (by omega)
  rw [hrl]
  have hC : SL.C w2 (some ⟨gv, 0, none⟩) 9 rows := by
    obtain ⟨A, c, e, _, h⟩ := Kd.R_reads hR
    rw [hrl] at e h
    injection e with e1 e2 e3
    rw [← e1] at h
    exact h
  have HC := Lib.hid hC
  have HS := Lib.hid hS
  have hg2 := blk_below (blk_below hg hB1) hB2
  have hm2 := blk_below hm hB2
  have HB2 := Lib.hid (below_step hB1 hB2)
  have y0 : w2.cell? ⟨gg, 0, none⟩ = some (.int .i64 30) := blk_cell hg2 0
  have y1 : w2.cell? ⟨gg, 1, none⟩ = some (.int .i64 12) := blk_cell hg2 1
  have y2 : w2.cell? ⟨gg, 2, none⟩ = some (.int .i64 6) := blk_cell hg2 2
  have y3 : w2.cell? ⟨gg, 3, none⟩ = some (.int .i64 8) := blk_cell hg2 3
  have m0 : w2.cell? ⟨w.heap.size + 1, 0, none⟩ = some (.slice (some yA0) 16 yc0) := blk_cell hm2 0
  have m1 : w2.cell? ⟨w.heap.size + 1, 1, none⟩ = some (.slice (some yA1) 6 yc1) := blk_cell hm2 1
  have m2 : w2.cell? ⟨w.heap.size + 1, 2, none⟩ = some (.slice (some yA2) 64 yc2) := blk_cell hm2 2
  have m3 : w2.cell? ⟨w.heap.size + 1, 3, none⟩ = some (.slice (some yA3) 12 yc3) := blk_cell hm2 3
  clear hg hB1 hm hR hS hB2 hrl hC hg2 hm2
  go_wp2_with fail
  clear y0 y1 y2 y3 m0 m1 m2 m3
  refine (metalay_any _ yA0 yc0 yA1 yc1 yA2 yc2 yA3 yc3 M' w2 (HF'.out.below HB2.out) HM'.out).mono ?_
  rintro e ws ⟨v, rfl, ⟨rows', hR, hS⟩, hBs⟩
  have hrl : rows'.length = 9 := by rw [hS.1, tagB, List.length_map, metaB_len HM'.out]
  obtain ⟨gv', cv', rfl⟩ := R_some hR (by omega)
  rw [hrl]
  have hC : SL.C ws (some ⟨gv', 0, none⟩) 9 rows' := by
    obtain ⟨A, c, e, _, h⟩ := Kd.R_reads hR
    rw [hrl] at e h
    injection e with e1 e2 e3
    rw [← e1] at h
    exact h
  have HC' := Lib.hid hC
  have HS' := Lib.hid hS
  have HCs := Lib.hid (Kd.C_below HC.out hBs)
  have HSs := Lib.hid (HS.out.below hBs)
  have HBs := Lib.hid (below_step HB2.out hBs)
  clear hR hS hC hrl HC HS HB2 hBs
  go_wp2_with fail
  go_loopg [35] 9 (fun q i wr => ∃ k, k + q = 9 ∧ i = .int .i64 (k : Int) ∧ Hid (Below ws.heap.size ws wr))
  case atStart => exact ⟨0, rfl, rfl, Lib.hid (Below.refl _ _)⟩
  case round =>
    obtain ⟨k, hq, rfl, hB⟩ := hrel
    cases gk with
    | zero =>
      obtain rfl : k = 9 := by omega
      have HBB := Lib.hid (below_step HBs.out hB.out)
      clear hB
      go_wp2_with fail
      go_ret
      exact ⟨true, rfl, fun _ => rfl, HBB.out⟩
    | succ q =>
      have d1 : decide ((k : Int) < 9) = true := decide_eq_true (by omega)
      have q0 : 0 ≤ (k : Int) := by omega
      have q1 : (k : Int) < 9 := by omega
      obtain ⟨a, c, hcell, -, hF, -⟩ := sl_at HCs.out HSs.out k (by rw [HN.out]; omega)
      obtain ⟨a', c', hcell', -, hF', -⟩ := sl_at HC'.out HS'.out k (by rw [HN'.out]; omega)
      rw [add_plain] at hcell hcell'
      obtain ⟨s1, hs1⟩ : ∃ s, strOfNums ((metaB M)[k]'(by rw [HN.out]; omega)) = s := ⟨_, rfl⟩
      obtain ⟨s2, hs2⟩ : ∃ s, strOfNums ((metaB M')[k]'(by rw [HN'.out]; omega)) = s := ⟨_, rfl⟩
      have P1 : Hid (∀ w', Below wr.heap.size wr w' → w'.cell? ⟨gv, k, none⟩ = some (.slice (some a) 64 c)) := Lib.hid (fun w' hS => by
        have hb := below_step hB.out hS
        rw [hb.cell (World.block_lt_of_cell? ws _ hcell)]; exact hcell)
      have P2 : Hid (∀ w', Below wr.heap.size wr w' → w'.cell? ⟨gv', k, none⟩ = some (.slice (some a') 64 c')) := Lib.hid (fun w' hS => by
        have hb := below_step hB.out hS
        rw [hb.cell (World.block_lt_of_cell? ws _ hcell')]; exact hcell')
      have V1 : Hid (∀ w', Below wr.heap.size wr w' → (convert 33 9 (.slice (some a) 64 c)).run Try.prog w' = .ok (.string s1) w') := Lib.hid (fun w' hS => by
        rw [← hs1]
        exact Kd.C_string (P := Try.prog) Try.underlying33 Try.underlying5 Try.underlying9 (Kd.C_below (Kd.F_now hF) (below_step hB.out hS)))
      have V2 : Hid (∀ w', Below wr.heap.size wr w' → (convert 33 9 (.slice (some a') 64 c')).run Try.prog w' = .ok (.string s2) w') := Lib.hid (fun w' hS => by
        rw [← hs2]
        exact Kd.C_string (P := Try.prog) Try.underlying33 Try.underlying5 Try.underlying9 (Kd.C_below (Kd.F_now hF') (below_step hB.out hS)))
      have HQ : Hid (metaB M = metaB M' → s1 = s2) := Lib.hid (fun e => by rw [← hs1, ← hs2]; congr 1; simp only [e])
      clear hcell hcell' hF hF' hs1 hs2
      go_wp2_with fail
      by_cases hss : (s1.toList == s2.toList) = true
      · have hb1 : (!(s1.toList == s2.toList)) = false := by rw [hss]; rfl
        refine start_ (n := 11) (S := (fun W => Below wr.heap.size wr W)) (ds := []) #[false, false, false, false, false, false, false, false, false, false, false] (by kernel_rfl) rfl rfl (below_drew (Below.refl _ _)) (fun hHeld => ?_)
        refine pure_ (i := 0) (N := some 38) (v := ?_) (a' := ?_) #[true, false, false, false, false, false, false, false, false, false, false] rfl rfl (by kernel_rfl) (fun _ _ _ h => h) (Or.inl ⟨by rfl, ?_⟩) ?_ ?_
        rotate_left
        · intro w'
          go_simp
          with_reducible rfl
        rotate_left
        · simp only [Act.put, List.setIfInBounds_toArray, List.set_cons_zero, List.set_cons_succ, i64_w, i32_w]
          rfl
        refine pure_ (i := 1) (N := some 39) (v := ?_) (a' := ?_) #[true, true, false, false, false, false, false, false, false, false, false] rfl rfl (by kernel_rfl) (fun _ _ _ h => h) (Or.inl ⟨by rfl, ?_⟩) ?_ ?_
        rotate_left
        · intro w'
          go_simp
          with_reducible rfl
        rotate_left
        · simp only [Act.put, List.setIfInBounds_toArray, List.set_cons_zero, List.set_cons_succ, i64_w, i32_w]
          rfl
        refine pure_ (i := 2) (N := some 40) (v := ?_) (a' := ?_) #[true, true, true, false, false, false, false, false, false, false, false] rfl rfl (by kernel_rfl) (fun _ _ _ h => h) (Or.inl ⟨by rfl, ?_⟩) ?_ ?_
        rotate_left
        · intro w'
          go_simp
          with_reducible rfl
        rotate_left
        · simp only [Act.put, List.setIfInBounds_toArray, List.set_cons_zero, List.set_cons_succ, i64_w, i32_w]
          rfl
        refine take_ (i := 3) (N := some 41) (v := ?_) (a' := ?_) #[true, true, true, true, false, false, false, false, false, false, false] rfl rfl (by kernel_rfl) (fun _ _ _ h => h) (Or.inl ⟨by rfl, ?_⟩) hHeld ?_ ?_
        rotate_left
        · rintro w' hS
          have y := P1.out w' hS
          go_simp
          with_reducible rfl
        rotate_left
        · simp only [Act.put, List.setIfInBounds_toArray, List.set_cons_zero, List.set_cons_succ, i64_w, i32_w]
          rfl
        refine take_ (i := 4) (N := some 42) (v := ?_) (a' := ?_) #[true, true, true, true, true, false, false, false, false, false, false] rfl rfl (by kernel_rfl) (fun _ _ _ h => h) (Or.inl ⟨by rfl, ?_⟩) hHeld ?_ ?_
        rotate_left
        · rintro w' hS
          have y := V1.out w' hS
          go_simp
          with_reducible rfl
        rotate_left
        · simp only [Act.put, List.setIfInBounds_toArray, List.set_cons_zero, List.set_cons_succ, i64_w, i32_w]
          rfl
        refine pure_ (i := 5) (N := some 43) (v := ?_) (a' := ?_) #[true, true, true, true, true, true, false, false, false, false, false] rfl rfl (by kernel_rfl) (fun _ _ _ h => h) (Or.inl ⟨by rfl, ?_⟩) ?_ ?_
        rotate_left
        · intro w'
          go_simp
          with_reducible rfl
        rotate_left
        · simp only [Act.put, List.setIfInBounds_toArray, List.set_cons_zero, List.set_cons_succ, i64_w, i32_w]
          rfl
        refine pure_ (i := 6) (N := some 44) (v := ?_) (a' := ?_) #[true, true, true, true, true, true, true, false, false, false, false] rfl rfl (by kernel_rfl) (fun _ _ _ h => h) (Or.inl ⟨by rfl, ?_⟩) ?_ ?_
        rotate_left
        · intro w'
          go_simp
          with_reducible rfl
        rotate_left
        · simp only [Act.put, List.setIfInBounds_toArray, List.set_cons_zero, List.set_cons_succ, i64_w, i32_w]
          rfl
        refine pure_ (i := 7) (N := some 45) (v := ?_) (a' := ?_) #[true, true, true, true, true, true, true, true, false, false, false] rfl rfl (by kernel_rfl) (fun _ _ _ h => h) (Or.inl ⟨by rfl, ?_⟩) ?_ ?_
        rotate_left
        · intro w'
          go_simp
          with_reducible rfl
        rotate_left
        · simp only [Act.put, List.setIfInBounds_toArray, List.set_cons_zero, List.set_cons_succ, i64_w, i32_w]
          rfl
        refine take_ (i := 8) (N := some 46) (v := ?_) (a' := ?_) #[true, true, true, true, true, true, true, true, true, false, false] rfl rfl (by kernel_rfl) (fun _ _ _ h => h) (Or.inl ⟨by rfl, ?_⟩) hHeld ?_ ?_
        rotate_left
        · rintro w' hS
          have y := P2.out w' hS
          go_simp
          with_reducible rfl
        rotate_left
        · simp only [Act.put, List.setIfInBounds_toArray, List.set_cons_zero, List.set_cons_succ, i64_w, i32_w]
          rfl
        refine take_ (i := 9) (N := some 47) (v := ?_) (a' := ?_) #[true, true, true, true, true, true, true, true, true, true, false] rfl rfl (by kernel_rfl) (fun _ _ _ h => h) (Or.inl ⟨by rfl, ?_⟩) hHeld ?_ ?_
        rotate_left
        · rintro w' hS
          have y := V2.out w' hS
          go_simp
          with_reducible rfl
        rotate_left
        · simp only [Act.put, List.setIfInBounds_toArray, List.set_cons_zero, List.set_cons_succ, i64_w, i32_w]
          rfl
        refine pure_ (i := 10) (N := some 48) (v := ?_) (a' := ?_) #[true, true, true, true, true, true, true, true, true, true, true] rfl rfl (by kernel_rfl) (fun _ _ _ h => h) (Or.inl ⟨by rfl, ?_⟩) ?_ ?_
        rotate_left
        · intro w'
          go_simp
          with_reducible rfl
        rotate_left
        · simp only [Act.put, List.setIfInBounds_toArray, List.set_cons_zero, List.set_cons_succ, i64_w, i32_w]
          rfl
        refine done_ (by kernel_rfl) ?_
        go_wp2_with fail
        go_roundg q
        case measure => omega
        case rel => exact ⟨k + 1, by omega, by go_num, Lib.hid (below_step hB.out (below_drew (Below.refl _ _)))⟩
      · have hb2 : (s1.toList == s2.toList) = false := by simpa using hss
        have hb1 : (!(s1.toList == s2.toList)) = true := by rw [hb2]; rfl
        refine start_ (n := 11) (S := (fun W => Below wr.heap.size wr W)) (ds := []) #[false, false, false, false, false, false, false, false, false, false, false] (by kernel_rfl) rfl rfl (below_drew (Below.refl _ _)) (fun hHeld => ?_)
        refine pure_ (i := 0) (N := some 38) (v := ?_) (a' := ?_) #[true, false, false, false, false, false, false, false, false, false, false] rfl rfl (by kernel_rfl) (fun _ _ _ h => h) (Or.inl ⟨by rfl, ?_⟩) ?_ ?_
        rotate_left
        · intro w'
          go_simp
          with_reducible rfl
        rotate_left
        · simp only [Act.put, List.setIfInBounds_toArray, List.set_cons_zero, List.set_cons_succ, i64_w, i32_w]
          rfl
        refine pure_ (i := 1) (N := some 39) (v := ?_) (a' := ?_) #[true, true, false, false, false, false, false, false, false, false, false] rfl rfl (by kernel_rfl) (fun _ _ _ h => h) (Or.inl ⟨by rfl, ?_⟩) ?_ ?_
        rotate_left
        · intro w'
          go_simp
          with_reducible rfl
        rotate_left
        · simp only [Act.put, List.setIfInBounds_toArray, List.set_cons_zero, List.set_cons_succ, i64_w, i32_w]
          rfl
        refine pure_ (i := 2) (N := some 40) (v := ?_) (a' := ?_) #[true, true, true, false, false, false, false, false, false, false, false] rfl rfl (by kernel_rfl) (fun _ _ _ h => h) (Or.inl ⟨by rfl, ?_⟩) ?_ ?_
        rotate_left
        · intro w'
          go_simp
          with_reducible rfl
        rotate_left
        · simp only [Act.put, List.setIfInBounds_toArray, List.set_cons_zero, List.set_cons_succ, i64_w, i32_w]
          rfl
        refine take_ (i := 3) (N := some 41) (v := ?_) (a' := ?_) #[true, true, true, true, false, false, false, false, false, false, false] rfl rfl (by kernel_rfl) (fun _ _ _ h => h) (Or.inl ⟨by rfl, ?_⟩) hHeld ?_ ?_
        rotate_left
        · rintro w' hS
          have y := P1.out w' hS
          go_simp
          with_reducible rfl
        rotate_left
        · simp only [Act.put, List.setIfInBounds_toArray, List.set_cons_zero, List.set_cons_succ, i64_w, i32_w]
          rfl
        refine take_ (i := 4) (N := some 42) (v := ?_) (a' := ?_) #[true, true, true, true, true, false, false, false, false, false, false] rfl rfl (by kernel_rfl) (fun _ _ _ h => h) (Or.inl ⟨by rfl, ?_⟩) hHeld ?_ ?_
        rotate_left
        · rintro w' hS
          have y := V1.out w' hS
          go_simp
          with_reducible rfl
        rotate_left
        · simp only [Act.put, List.setIfInBounds_toArray, List.set_cons_zero, List.set_cons_succ, i64_w, i32_w]
          rfl
        refine pure_ (i := 5) (N := some 43) (v := ?_) (a' := ?_) #[true, true, true, true, true, true, false, false, false, false, false] rfl rfl (by kernel_rfl) (fun _ _ _ h => h) (Or.inl ⟨by rfl, ?_⟩) ?_ ?_
        rotate_left
        · intro w'
          go_simp
          with_reducible rfl
        rotate_left
        · simp only [Act.put, List.setIfInBounds_toArray, List.set_cons_zero, List.set_cons_succ, i64_w, i32_w]
          rfl
        refine pure_ (i := 6) (N := some 44) (v := ?_) (a' := ?_) #[true, true, true, true, true, true, true, false, false, false, false] rfl rfl (by kernel_rfl) (fun _ _ _ h => h) (Or.inl ⟨by rfl, ?_⟩) ?_ ?_
        rotate_left
        · intro w'
          go_simp
          with_reducible rfl
        rotate_left
        · simp only [Act.put, List.setIfInBounds_toArray, List.set_cons_zero, List.set_cons_succ, i64_w, i32_w]
          rfl
        refine pure_ (i := 7) (N := some 45) (v := ?_) (a' := ?_) #[true, true, true, true, true, true, true, true, false, false, false] rfl rfl (by kernel_rfl) (fun _ _ _ h => h) (Or.inl ⟨by rfl, ?_⟩) ?_ ?_
        rotate_left
        · intro w'
          go_simp
          with_reducible rfl
        rotate_left
        · simp only [Act.put, List.setIfInBounds_toArray, List.set_cons_zero, List.set_cons_succ, i64_w, i32_w]
          rfl
        refine take_ (i := 8) (N := some 46) (v := ?_) (a' := ?_) #[true, true, true, true, true, true, true, true, true, false, false] rfl rfl (by kernel_rfl) (fun _ _ _ h => h) (Or.inl ⟨by rfl, ?_⟩) hHeld ?_ ?_
        rotate_left
        · rintro w' hS
          have y := P2.out w' hS
          go_simp
          with_reducible rfl
        rotate_left
        · simp only [Act.put, List.setIfInBounds_toArray, List.set_cons_zero, List.set_cons_succ, i64_w, i32_w]
          rfl
        refine take_ (i := 9) (N := some 47) (v := ?_) (a' := ?_) #[true, true, true, true, true, true, true, true, true, true, false] rfl rfl (by kernel_rfl) (fun _ _ _ h => h) (Or.inl ⟨by rfl, ?_⟩) hHeld ?_ ?_
        rotate_left
        · rintro w' hS
          have y := V2.out w' hS
          go_simp
          with_reducible rfl
        rotate_left
        · simp only [Act.put, List.setIfInBounds_toArray, List.set_cons_zero, List.set_cons_succ, i64_w, i32_w]
          rfl
        refine pure_ (i := 10) (N := some 48) (v := ?_) (a' := ?_) #[true, true, true, true, true, true, true, true, true, true, true] rfl rfl (by kernel_rfl) (fun _ _ _ h => h) (Or.inl ⟨by rfl, ?_⟩) ?_ ?_
        rotate_left
        · intro w'
          go_simp
          with_reducible rfl
        rotate_left
        · simp only [Act.put, List.setIfInBounds_toArray, List.set_cons_zero, List.set_cons_succ, i64_w, i32_w]
          rfl
        refine done_ (by kernel_rfl) ?_
        go_wp2_with fail
        go_ret
        exact ⟨false, rfl, fun e => absurd (by rw [HQ.out e]; exact beq_self_eq_true _) hss, below_step HBs.out (below_step hB.out (below_drew (Below.refl _ _)))⟩
end Go.Proofs.Ytpbijdalfeaheaa.Tf
