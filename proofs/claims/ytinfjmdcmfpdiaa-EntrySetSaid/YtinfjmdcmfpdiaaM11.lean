/- Walks and plain laws on which the claim stands, several texts joined. -/
import Derived.Test.YtinfjmdcmfpdiaaM10
import Derived.Laws.CopyOwn

/- The reference's functions of layer 12 answer as the model does. No walk. -/
namespace Go.Proofs.Ytinfjmdcmfpdiaa.Md
open Go.RowKit Go.Proofs.Ytinfjmdcmfpdiaa.Rt Go.Proofs.Ytinfjmdcmfpdiaa.Pc Go.Proofs.Ytinfjmdcmfpdiaa.Al Go.Proofs.Ytinfjmdcmfpdiaa.D Go.Proofs.YtinfjmdcmfpdiaaW.PrintWords Go.Proofs.YtinfjmdcmfpdiaaW.PrintLast Go.Proofs.YtinfjmdcmfpdiaaW.PrintMore

def slotOf : Sl → S67
  | none => ⟨⟨⟨#[]⟩, 0⟩, false⟩
  | some e => ⟨⟨e.1, e.2⟩, true⟩
def ansS : Option (List Sl) → List S67 × Bool
  | none => ([], false)
  | some s => (s.map slotOf, true)
theorem rd_slot (s : List Sl) (j : Nat) (h : j < s.length) : rd_T67 (s.map slotOf) (j : Int) = slotOf s[j] := by
  unfold rd_T67
  rw [Int.toNat_natCast, List.getD_eq_getElem?_getD, List.getElem?_map, List.getElem?_eq_getElem h]; rfl
theorem w_nat (j m : Nat) (h : j + m ≤ 100000) : wrap64 ((j : Int) + (m : Int)) = ((j + m : Nat) : Int) := by unfold wrap64; omega
theorem w_one (j : Nat) (h : j ≤ 90000) : wrap64 ((j : Int) + 1) = ((j + 1 : Nat) : Int) := by unfold wrap64; omega
theorem str_eq {a b : ByteArray} : a.toList = b.toList ↔ a = b := by
  rw [Lib.toList_data, Lib.toList_data]
  exact ⟨fun h => ba_ext h, fun h => by rw [h]⟩

/-! Slots -/
theorem ev_l1_free (l : List Int) (x5 : Int) (s : List Sl) (hs : s.length ≤ 240) (r : List S67 × Bool) (h : Ev (fun k => moatref12_Slots.l0 k l ((s ++ [none]).map slotOf) (wrap64 (x5 + 16))) r) (d : Nat) :
    ∀ j : Nat, j + d = s.length → Ev (fun k => moatref12_Slots.l1 k l (s.map slotOf) x5 false (j : Int) ⟨#[]⟩ 0) r := by
  induction d with
  | zero =>
    intro j hj
    refine Ev.step (fun k => ?_) h
    simp only [moatref12_Slots.l1]
    rw [if_neg (by rw [List.length_map]; omega), if_pos (by rw [List.length_map]; omega), List.map_append]; rfl
  | succ d ih =>
    intro j hj
    refine Ev.step (fun k => ?_) (ih (j + 1) (by omega))
    simp only [moatref12_Slots.l1]
    rw [if_pos (by rw [List.length_map]; omega), if_neg (by decide), w_one j (by omega)]
theorem ev_l1_miss (l : List Int) (x5 : Int) (s : List Sl) (hs : s.length ≤ 240) (e : ByteArray × Int) (hm : e.1 ∉ names s) (r : List S67 × Bool) (h : Ev (fun k => moatref12_Slots.l0 k l ((s ++ [some e]).map slotOf) (wrap64 (x5 + 16))) r) (d : Nat) :
    ∀ j : Nat, j + d = s.length → Ev (fun k => moatref12_Slots.l1 k l (s.map slotOf) x5 true (j : Int) e.1 e.2) r := by
  induction d with
  | zero =>
    intro j hj
    refine Ev.step (fun k => ?_) h
    simp only [moatref12_Slots.l1]
    rw [if_neg (by rw [List.length_map]; omega), if_pos (by rw [List.length_map]; omega), List.map_append]; rfl
  | succ d ih =>
    intro j hj
    have hlt : j < s.length := by omega
    refine Ev.step (fun k => ?_) (ih (j + 1) (by omega))
    simp only [moatref12_Slots.l1]
    rw [if_pos (by rw [List.length_map]; omega), if_pos trivial, if_pos (by omega), rd_slot s j hlt, w_one j (by omega)]
    cases hsj : s[j] with
    | none => rw [if_neg (by simp [slotOf])]
    | some p =>
      rw [if_pos (by rfl), if_neg]
      intro h
      have h2 : p.1 = e.1 := str_eq.1 h
      exact hm (names_mem.2 ⟨p.2, by rw [← h2, ← hsj]; exact List.getElem_mem hlt⟩)
theorem ev_l1_hit (l : List Int) (x5 : Int) (s : List Sl) (hs : s.length ≤ 240) (e : ByteArray × Int) (d : Nat) :
    ∀ j : Nat, j + d = s.length → e.1 ∈ names (s.drop j) → Ev (fun k => moatref12_Slots.l1 k l (s.map slotOf) x5 true (j : Int) e.1 e.2) ([], false) := by
  induction d with
  | zero => intro j hj hm; rw [List.drop_of_length_le (by omega)] at hm; cases hm
  | succ d ih =>
    intro j hj hm
    have hlt : j < s.length := by omega
    by_cases hh : ∃ i, s[j] = some (e.1, i)
    · obtain ⟨i, hi⟩ := hh
      refine Ev.step (f := fun _ => some ([], false)) (fun k => ?_) (Ev.now _)
      simp only [moatref12_Slots.l1]
      rw [if_pos (by rw [List.length_map]; omega), if_pos trivial, if_pos (by omega), rd_slot s j hlt, hi, if_pos (by rfl), if_pos (by rfl)]
    · have hm2 : e.1 ∈ names (s.drop (j + 1)) := by
        rw [names_mem] at hm ⊢
        obtain ⟨i, hi⟩ := hm
        rw [List.drop_eq_getElem_cons hlt, List.mem_cons] at hi
        rcases hi with hi | hi
        · exact absurd ⟨i, hi.symm⟩ hh
        · exact ⟨i, hi⟩
      refine Ev.step (fun k => ?_) (ih (j + 1) (by omega) hm2)
      simp only [moatref12_Slots.l1]
      rw [if_pos (by rw [List.length_map]; omega), if_pos trivial, if_pos (by omega), rd_slot s j hlt, w_one j (by omega)]
      cases hsj : s[j] with
      | none => rw [if_neg (by simp [slotOf])]
      | some p =>
        rw [if_pos (by rfl), if_neg]
        intro h
        have h2 : p.1 = e.1 := str_eq.1 h
        exact hh ⟨p.2, by rw [hsj, ← h2]⟩
theorem ev_l0 {l : List Int} (hb : Bytes l) (d : Nat) : ∀ (i : Nat) (acc : List Sl), l.length = 16 * (i + d) → i + d ≤ 240 → acc.length = i →
    Ev (fun k => moatref12_Slots.l0 k l (acc.map slotOf) ((16 * i : Nat) : Int)) (ansS (slotsGo l d i acc)) := by
  induction d with
  | zero =>
    intro i acc hl hi ha
    refine Ev.step (f := fun _ => some (acc.map slotOf, true)) (fun k => ?_) (Ev.now _)
    simp only [moatref12_Slots.l0]
    rw [if_neg (by omega)]
  | succ d ih =>
    intro i acc hl hi ha
    have hw : wrap64 (((16 * i : Nat) : Int) + 16) = ((16 * i + 16 : Nat) : Int) := w_nat (16 * i) 16 (by omega)
    have he : (l.take (((16 * i + 16 : Nat) : Int).toNat)).drop (((16 * i : Nat) : Int).toNat) = entL l i := by
      rw [Int.toNat_natCast, Int.toNat_natCast]
      unfold entL
      rw [← List.take_drop]
    have hbe : Bytes (entL l i) := (hb.drop _).take _
    have hn : wrap64 (((16 * i : Nat) : Int) + 16) = ((16 * (i + 1) : Nat) : Int) := by rw [hw]; congr 1
    have key : ∀ r, Ev (fun k => (moatref12_Take.f k (entL l i)).bind fun bt126 => (if bt126.2.2.2 = 0 then (moatref12_Slots.l1 k l (acc.map slotOf) ((16 * i : Nat) : Int) bt126.2.2.1 0 bt126.1 bt126.2.1) else (some (([] : List (S67)), false)))) r → Ev (fun k => moatref12_Slots.l0 k l (acc.map slotOf) ((16 * i : Nat) : Int)) r := by
      intro r h
      refine Ev.step (fun k => ?_) h
      simp only [moatref12_Slots.l0]
      rw [if_pos (by omega), if_pos (by omega), hw, if_pos (by omega), if_pos (by omega), he]
    refine key _ (Ev.bind (a := takeA (entL l i)) ⟨1, fun k hk => rtake_eq k hbe hk⟩ ?_)
    simp only [slotsGo]
    unfold takeA
    cases hT : takeO (entL l i) with
    | none => exact Ev.congr (f := fun _ => some ([], false)) (fun k => if_neg (by decide)) (Ev.now _)
    | some o =>
      cases o with
      | none =>
        refine Ev.congr (fun k => if_pos rfl) ?_
        refine ev_l1_free l _ acc (by omega) _ ?_ acc.length 0 (by omega)
        rw [hn]
        exact ih (i + 1) _ (by omega) (by omega) (by simp; omega)
      | some e =>
        refine Ev.congr (fun k => if_pos rfl) ?_
        by_cases hm : e.1 ∈ names acc
        · simp only
          rw [if_pos hm]
          exact ev_l1_hit l _ acc (by omega) e acc.length 0 (by omega) hm
        · simp only
          rw [if_neg hm]
          refine ev_l1_miss l _ acc (by omega) e hm _ ?_ acc.length 0 (by omega)
          rw [hn]
          exact ih (i + 1) _ (by omega) (by omega) (by simp; omega)
theorem slots_ev {l : List Int} (hb : Bytes l) : Ev (fun k => moatref12_Slots.f k l) (ansS (dirO l)) := by
  unfold dirO
  by_cases h : l.length % 16 = 0 ∧ l.length ≤ 3840
  · rw [if_pos h]
    have := ev_l0 hb (l.length / 16) 0 [] (by omega) (by omega) rfl
    refine Ev.congr (f := fun k => moatref12_Slots.j0 k l false) (fun k => ?_) (Ev.step (fun k => ?_) this)
    · unfold moatref12_Slots.f
      rw [if_pos (by omega), decide_eq_false (by omega)]
    · simp only [moatref12_Slots.j0]
      rw [if_neg (by decide)]; rfl
  · rw [if_neg h]
    refine Ev.congr (f := fun k => moatref12_Slots.j0 k l true) (fun k => ?_) (Ev.step (f := fun _ => some ([], false)) (fun k => ?_) (Ev.now _))
    · unfold moatref12_Slots.f
      by_cases h1 : l.length % 16 = 0
      · rw [if_pos (by omega), decide_eq_true (by omega)]
      · rw [if_neg (by omega)]
    · simp only [moatref12_Slots.j0]
      rw [if_pos trivial]

/-! All -/
theorem ev_all_l0 (s : List Sl) (hs : s.length ≤ 240) (d : Nat) : ∀ j : Nat, j + d = s.length → Ev (fun k => moatref12_All.l0 k (s.map slotOf) (entsOf (s.take j)) (j : Int)) (entsOf s, 0) := by
  induction d with
  | zero =>
    intro j hj
    refine Ev.step (f := fun _ => some (entsOf s, 0)) (fun k => ?_) (Ev.now _)
    simp only [moatref12_All.l0]
    rw [if_neg (by rw [List.length_map]; omega), List.take_of_length_le (by omega)]
  | succ d ih =>
    intro j hj
    have hlt : j < s.length := by omega
    refine Ev.step (fun k => ?_) (ih (j + 1) (by omega))
    simp only [moatref12_All.l0]
    have hle := entsOf_le (s.take j)
    rw [List.length_take] at hle
    rw [if_pos (by rw [List.length_map]; omega), if_pos (by omega), rd_slot s j hlt, w_one j (by omega)]
    have ht : s.take (j + 1) = s.take j ++ [s[j]] := List.take_succ_eq_append_getElem hlt
    rw [ht]
    cases hsj : s[j] with
    | none => rw [if_neg (by simp [slotOf]), entsOf_none]
    | some p => rw [if_pos (by rfl), if_pos (by omega), entsOf_some]; rfl
theorem all_ev {l : List Int} (hb : Bytes l) : Ev (fun k => moatref12_All.f k l) (allA l) := by
  unfold moatref12_All.f
  refine Ev.bind (slots_ev hb) ?_
  unfold allA
  cases hd : dirO l with
  | none => exact Ev.congr (f := fun _ => some ([], 121)) (fun k => if_neg (by simp [Md.ansS])) (Ev.now _)
  | some s =>
    refine Ev.congr (fun k => if_pos (by rfl)) ?_
    exact ev_all_l0 s (dir_good hd).2.room s.length 0 (by omega)

/-! Find -/
theorem rd_ent (xs : List S23) (j : Nat) (h : j < xs.length) : rd_T23 xs (j : Int) = xs[j] := by
  unfold rd_T23
  rw [Int.toNat_natCast, List.getD_eq_getElem?_getD, List.getElem?_eq_getElem h]; rfl
def findE (n : ByteArray) : List S23 → Option Int
  | [] => none
  | e :: r => if e.f0 = n then some e.f1 else findE n r
theorem findE_ents (n : ByteArray) (s : List Sl) : findE n (entsOf s) = findGo n s := by
  induction s with
  | nil => rfl
  | cons o r ih =>
    cases o with
    | none => exact ih
    | some e =>
      show (if e.1 = n then some e.2 else findE n (entsOf r)) = (if e.1 = n then some e.2 else findGo n r)
      rw [ih]
theorem ev_find_l0 (n : ByteArray) (xs : List S23) (hs : xs.length ≤ 240) (d : Nat) : ∀ j : Nat, j + d = xs.length → Ev (fun k => moatref12_Find.l0 k n xs (j : Int)) (findR (findE n (xs.drop j))) := by
  induction d with
  | zero =>
    intro j hj
    refine Ev.step (f := fun _ => some (0, false)) (fun k => ?_) ?_
    · simp only [moatref12_Find.l0]
      rw [if_neg (by omega)]
    · rw [List.drop_of_length_le (by omega)]; exact Ev.now _
  | succ d ih =>
    intro j hj
    have hlt : j < xs.length := by omega
    rw [List.drop_eq_getElem_cons hlt]
    by_cases he : xs[j].f0 = n
    · refine Ev.step (f := fun _ => some (xs[j].f1, true)) (fun k => ?_) ?_
      · simp only [moatref12_Find.l0]
        rw [if_pos (by omega), if_pos (by omega), rd_ent xs j hlt, if_pos (str_eq.2 he)]
      · rw [show findE n (xs[j] :: xs.drop (j + 1)) = some xs[j].f1 from if_pos he]; exact Ev.now _
    · rw [show findE n (xs[j] :: xs.drop (j + 1)) = findE n (xs.drop (j + 1)) from if_neg he]
      refine Ev.step (fun k => ?_) (ih (j + 1) (by omega))
      simp only [moatref12_Find.l0]
      rw [if_pos (by omega), if_pos (by omega), rd_ent xs j hlt, if_neg (fun h => he (str_eq.1 h)), w_one j (by omega)]
theorem find_ev {l : List Int} (hb : Bytes l) (n : ByteArray) : Ev (fun k => moatref12_Find.f k l n) (findA l n) := by
  unfold moatref12_Find.f
  refine Ev.bind (all_ev hb) ?_
  unfold findA allA
  cases hd : dirO l with
  | none => exact ev_find_l0 n [] (by simp) 0 0 rfl
  | some s =>
    have hle := entsOf_le s
    have := (dir_good hd).2.room
    have h := ev_find_l0 n (entsOf s) (by omega) (entsOf s).length 0 (by omega)
    rw [List.drop_zero, findE_ents] at h
    exact h

/-! Bytes -/
theorem ev_bytes_l0 (s : List Sl) (hs : s.length ≤ 240) (hok : AllOk s) (d : Nat) : ∀ j : Nat, j + d = s.length → Ev (fun k => moatref12_Bytes.l0 k (s.map slotOf) (bytesS (s.take j)) (j : Int)) (bytesS s) := by
  induction d with
  | zero =>
    intro j hj
    refine Ev.step (f := fun _ => some (bytesS s)) (fun k => ?_) (Ev.now _)
    simp only [moatref12_Bytes.l0]
    rw [if_neg (by rw [List.length_map]; omega), List.take_of_length_le (by omega)]
  | succ d ih =>
    intro j hj
    have hlt : j < s.length := by omega
    refine Ev.step (fun k => ?_) (ih (j + 1) (by omega))
    have hl := bytesS_len (hok.take j)
    rw [List.length_take] at hl
    simp only [moatref12_Bytes.l0]
    rw [if_pos (by rw [List.length_map]; omega), if_pos (by decide), Option.bind_some, if_pos (by omega), rd_slot s j hlt, w_one j (by omega)]
    have ht : s.take (j + 1) = s.take j ++ [s[j]] := List.take_succ_eq_append_getElem hlt
    rw [ht, bytesS_append]
    cases hsj : s[j] with
    | none =>
      rw [if_neg (by simp [slotOf]), if_pos (by rw [List.length_replicate]; omega)]
      simp [bytesS, slotB, zeros]
    | some p =>
      have hp : okE p := hok p (by rw [← hsj]; exact List.getElem_mem hlt)
      rw [if_pos (by rfl)]
      show ((some (La.layA p.1 p.2)).bind _) = _
      rw [layA_right hp.1 hp.2.1 hp.2.2, Option.bind_some]
      have := La.layL_len p.1 p.2 hp.size.2
      rw [if_pos (by show (bytesS (s.take j)).length + (La.layL p.1 p.2).length < _; omega)]
      simp [bytesS, slotB]
theorem bytes_ev (s : List Sl) (hs : s.length ≤ 240) (hok : AllOk s) : Ev (fun k => moatref12_Bytes.f k (s.map slotOf)) (bytesS s) := by
  have := ev_bytes_l0 s hs hok s.length 0 (by omega)
  exact this

/-! Add -/
theorem ev_add_j1 (l : List Int) (s : List Sl) (e : ByteArray × Int) (hl : l.length = 16 * s.length) (hs : s.length ≤ 240) (hok : AllOk s) (he : okE e) (F : Option Nat) (j : Nat) (hF : (F = some j ∧ j < s.length) ∨ (F = none ∧ j = s.length)) :
    Ev (fun k => moatref12_Add.j1 k l (s.map slotOf) (j : Int) e.1 e.2) (fillS s e F) := by
  rcases hF with ⟨rfl, hj⟩ | ⟨rfl, rfl⟩
  · refine Ev.step (fun k => ?_) (Ev.bind (f := fun _ t => some (t, (0 : Int))) (bytes_ev (s.set j (some e)) (by simp; omega) (hok.set j (fun e' h => by injection h with h; rw [← h]; exact he))) (Ev.now _))
    simp only [moatref12_Add.j1]
    rw [if_pos (by rw [List.length_map]; omega), if_pos (by omega), Int.toNat_natCast, List.map_set]; rfl
  · unfold fillS
    by_cases h : s.length < 240
    · simp only
      rw [if_pos h]
      refine Ev.step (fun k => ?_) (Ev.bind (f := fun _ t => some (t, (0 : Int))) (bytes_ev (s ++ [some e]) (by simp; omega) (hok.append (.one he))) (Ev.now _))
      simp only [moatref12_Add.j1]
      rw [if_neg (by rw [List.length_map]; omega), if_neg (by unfold wrap64; omega), if_pos (by rw [List.length_map]; omega), List.map_append]; rfl
    · simp only
      rw [if_neg h]
      refine Ev.step (f := fun _ => some ([], 5)) (fun k => ?_) (Ev.now _)
      simp only [moatref12_Add.j1]
      rw [if_neg (by rw [List.length_map]; omega), if_pos (by unfold wrap64; omega)]
theorem ev_add_l0 (l : List Int) (s : List Sl) (e : ByteArray × Int) (hl : l.length = 16 * s.length) (hs : s.length ≤ 240) (hok : AllOk s) (he : okE e) (d : Nat) : ∀ j : Nat, j + d = s.length →
    Ev (fun k => moatref12_Add.l0 k l (s.map slotOf) (j : Int) e.1 e.2) (fillS s e (freeGo (s.drop j) j)) := by
  induction d with
  | zero =>
    intro j hj
    refine Ev.step (fun k => ?_) (ev_add_j1 l s e hl hs hok he _ j (.inr ⟨by rw [List.drop_of_length_le (by omega)]; rfl, by omega⟩))
    simp only [moatref12_Add.l0]
    rw [if_neg (by rw [List.length_map]; omega)]
  | succ d ih =>
    intro j hj
    have hlt : j < s.length := by omega
    cases hsj : s[j] with
    | none =>
      refine Ev.step (fun k => ?_) (ev_add_j1 l s e hl hs hok he _ j (.inl ⟨freeGo_drop_none hlt hsj, hlt⟩))
      simp only [moatref12_Add.l0]
      rw [if_pos (by rw [List.length_map]; omega), if_pos (by omega), rd_slot s j hlt, hsj, if_neg (by simp [slotOf])]
    | some p =>
      rw [freeGo_drop_some hlt hsj]
      refine Ev.step (fun k => ?_) (ih (j + 1) (by omega))
      simp only [moatref12_Add.l0]
      rw [if_pos (by rw [List.length_map]; omega), if_pos (by omega), rd_slot s j hlt, hsj, if_pos (by rfl), w_one j (by omega)]
theorem add_ev {l : List Int} (hb : Bytes l) (n : ByteArray) (i : Int) : Ev (fun k => moatref12_Add.f k l n i) (addA l n i) := by
  unfold moatref12_Add.f
  refine Ev.bind (slots_ev hb) ?_
  unfold addA
  cases hd : dirO l with
  | none => exact Ev.congr (f := fun _ => some ([], 121)) (fun k => if_neg (by simp [Md.ansS])) (Ev.now _)
  | some s =>
    obtain ⟨hl, hg⟩ := dir_good hd
    refine Ev.congr (fun k => if_pos (by rfl)) ?_
    refine Ev.bind (a := La.layA n i) (Ev.now _) ?_
    simp only
    unfold addS
    by_cases h0 : (La.layA n i).2 = 0
    · rw [if_pos h0]
      refine Ev.congr (fun k => if_pos h0) ?_
      obtain ⟨k1, k2, k3, k4⟩ := layA_ok (show La.layA n i = ((La.layA n i).1, 0) from Prod.ext rfl h0)
      have hfa : findA l n = findR (findGo n s) := by unfold findA; rw [hd]
      have hfe := find_ev hb n
      rw [hfa] at hfe
      rcases place_cases n s with ⟨h1, h2, h3⟩ | ⟨j, i', hj, h1, h2, h3⟩
      · rw [h2] at hfe
        refine Ev.bind hfe ?_
        rw [if_neg (by omega)]
        refine Ev.congr (fun k => if_neg (by simp [findR])) ?_
        have := ev_add_l0 l s (n, i) (by rw [hl]; exact bytesS_len hg.ok) hg.room hg.ok ⟨k1, k2, k3⟩ s.length 0 (by omega)
        rw [List.drop_zero] at this
        exact this
      · rw [h3] at hfe
        refine Ev.bind hfe ?_
        rw [if_pos (by omega)]
        exact Ev.congr (f := fun _ => some ([], 3)) (fun k => if_pos (by rfl)) (Ev.now _)
    · rw [if_neg h0]
      exact Ev.congr (f := fun _ => some ([], (La.layA n i).2)) (fun k => if_neg h0) (Ev.now _)

/-! Remove -/
theorem ev_rm_l1 (t : List Sl) (ht : t.length ≤ 240) (hok : AllOk t) (m : Nat) : m ≤ t.length → Ev (fun k => moatref12_Remove.l1 k ((t.take m).map slotOf)) (bytesS (trimGo t m), 0) := by
  induction m with
  | zero =>
    intro hm
    refine Ev.step (fun k => ?_) (Ev.bind (f := fun _ t => some (t, (0 : Int))) (bytes_ev (t.take 0) (by simp) (hok.take 0)) (Ev.now _))
    simp only [moatref12_Remove.l1]
    rw [if_neg (by simp)]
  | succ m ih =>
    intro hm
    have hl : ((t.take (m + 1)).map slotOf).length = m + 1 := by rw [List.length_map, List.length_take]; omega
    have hw : wrap64 ((((t.take (m + 1)).map slotOf).length : Int) - 1) = (m : Int) := by rw [hl]; unfold wrap64; omega
    have hlt : m < t.length := by omega
    have hr : rd_T67 ((t.take (m + 1)).map slotOf) (m : Int) = slotOf t[m] := by
      rw [rd_slot _ m (by rw [List.length_take]; omega)]
      congr 1
      exact List.getElem_take
    cases hsm : t[m] with
    | none =>
      rw [show trimGo t (m + 1) = trimGo t m from if_pos (by rw [List.getElem?_eq_getElem hlt, hsm])]
      refine Ev.step (fun k => ?_) (ih (by omega))
      simp only [moatref12_Remove.l1]
      rw [if_pos (by rw [hl]; omega), hw, if_pos (by omega), if_pos (by rw [hl]; omega), hr, hsm, if_neg (by simp [slotOf]), if_pos (by rw [hl]; omega), Int.toNat_natCast, ← List.map_take, List.take_take, Nat.min_eq_left (by omega)]
    | some p =>
      rw [show trimGo t (m + 1) = t.take (m + 1) from if_neg (by rw [List.getElem?_eq_getElem hlt, hsm]; simp)]
      refine Ev.step (fun k => ?_) (Ev.bind (f := fun _ t => some (t, (0 : Int))) (bytes_ev (t.take (m + 1)) (by rw [List.length_take]; omega) (hok.take _)) (Ev.now _))
      simp only [moatref12_Remove.l1]
      rw [if_pos (by rw [hl]; omega), hw, if_pos (by omega), if_pos (by rw [hl]; omega), hr, hsm, if_pos (by rfl)]
/-- Behind the last slot of that name. -/
theorem ev_rm_after (n : ByteArray) (s : List Sl) (hs : s.length ≤ 240) (x8 : Bool) (r : List Int × Int) (h : Ev (fun k => if x8 = true then (moatref12_Remove.l1 k (s.map slotOf)) else (some (([] : List Int), 2))) r) (d : Nat) : ∀ j : Nat, j + d = s.length → n ∉ names (s.drop j) →
    Ev (fun k => moatref12_Remove.l0 k n (s.map slotOf) x8 (j : Int)) r := by
  induction d with
  | zero =>
    intro j hj _
    refine Ev.step (fun k => ?_) h
    simp only [moatref12_Remove.l0]
    rw [if_neg (by rw [List.length_map]; omega)]
  | succ d ih =>
    intro j hj hm
    have hlt : j < s.length := by omega
    have hm2 : n ∉ names (s.drop (j + 1)) := fun h => hm (by
      obtain ⟨i, hi⟩ := names_mem.1 h
      exact names_mem.2 ⟨i, by rw [List.drop_eq_getElem_cons hlt]; exact List.mem_cons_of_mem _ hi⟩)
    refine Ev.step (fun k => ?_) (ih (j + 1) (by omega) hm2)
    simp only [moatref12_Remove.l0]
    rw [if_pos (by rw [List.length_map]; omega), if_pos (by omega), rd_slot s j hlt, w_one j (by omega)]
    cases hsj : s[j] with
    | none => rw [if_neg (by simp [slotOf])]
    | some p =>
      rw [if_pos (by rfl), if_neg]
      intro h
      have h2 : p.1 = n := str_eq.1 h
      exact hm (names_mem.2 ⟨p.2, by rw [List.drop_eq_getElem_cons hlt, hsj, ← h2]; simp⟩)
theorem ev_rm_hit (n : ByteArray) (s : List Sl) (hs : s.length ≤ 240) (hn : (names s).Nodup) {q : Nat} {i : Int} (hq : q < s.length) (hqs : s[q] = some (n, i)) (r : List Int × Int) (h : Ev (fun k => moatref12_Remove.l1 k ((s.set q none).map slotOf)) r) (d : Nat) : ∀ j : Nat, j + d = q →
    Ev (fun k => moatref12_Remove.l0 k n (s.map slotOf) false (j : Int)) r := by
  have e : s = s.take q ++ some (n, i) :: s.drop (q + 1) := by rw [← hqs, ← List.drop_eq_getElem_cons hq, List.take_append_drop]
  have e2 : names s = names (s.take q) ++ n :: names (s.drop (q + 1)) := by
    conv => lhs; rw [e]
    rw [names_append]; simp [names]
  rw [e2, List.nodup_append, List.nodup_cons] at hn
  induction d with
  | zero =>
    intro j hj
    obtain rfl : j = q := by omega
    have h2 := ev_rm_after n (s.set j none) (by simp; omega) true r h (s.length - (j + 1)) (j + 1) (by simp; omega) (by
      rw [List.drop_set_of_lt (by omega)]; exact hn.2.1.1)
    refine Ev.step (fun k => ?_) h2
    simp only [moatref12_Remove.l0]
    rw [if_pos (by rw [List.length_map]; omega), if_pos (by omega), rd_slot s j hq, w_one j (by omega), hqs, if_pos (by rfl), if_pos (by rfl), Int.toNat_natCast, List.map_set]; rfl
  | succ d ih =>
    intro j hj
    have hlt : j < s.length := by omega
    refine Ev.step (fun k => ?_) (ih (j + 1) (by omega))
    simp only [moatref12_Remove.l0]
    rw [if_pos (by rw [List.length_map]; omega), if_pos (by omega), rd_slot s j hlt, w_one j (by omega)]
    cases hsj : s[j] with
    | none => rw [if_neg (by simp [slotOf])]
    | some p =>
      rw [if_pos (by rfl), if_neg]
      intro h
      have h2 : p.1 = n := str_eq.1 h
      refine hn.2.2 n (names_mem.2 ⟨p.2, ?_⟩) n (by simp) rfl
      rw [← h2, ← hsj]
      exact List.mem_take_iff_getElem.2 ⟨j, by omega, rfl⟩
theorem remove_ev {l : List Int} (hb : Bytes l) (n : ByteArray) : Ev (fun k => moatref12_Remove.f k l n) (removeA l n) := by
  unfold moatref12_Remove.f
  refine Ev.bind (slots_ev hb) ?_
  unfold removeA
  cases hd : dirO l with
  | none => exact Ev.congr (f := fun _ => some ([], 121)) (fun k => if_neg (by simp [Md.ansS])) (Ev.now _)
  | some s =>
    obtain ⟨hl, hg⟩ := dir_good hd
    have hroom := hg.room
    refine Ev.congr (fun k => if_pos (by rfl)) ?_
    simp only
    unfold removeS
    rcases place_cases n s with ⟨h1, h2, h3⟩ | ⟨j, i', hj, h1, h2, h3⟩
    · rw [if_neg (by omega)]
      exact ev_rm_after n s hroom false _ (Ev.congr (f := fun _ => some ([], 2)) (fun k => if_neg (by decide)) (Ev.now _)) s.length 0 (by omega) h3
    · rw [if_pos (by omega), h1, Int.toNat_natCast]
      refine ev_rm_hit n s hroom hg.apart hj h2 _ ?_ j 0 (by omega)
      have := ev_rm_l1 (s.set j none) (by simp; omega) (hg.ok.set j (fun e h => by cases h)) (s.set j none).length (Nat.le_refl _)
      rw [List.take_of_length_le (Nat.le_refl _)] at this
      exact this

/-! Same -/
theorem ev_same_l0 (xs : List S23) (hs : xs.length ≤ 240) (d : Nat) : ∀ j : Nat, j + d = xs.length → Ev (fun k => moatref12_Same.l0 k xs xs (j : Int)) true := by
  induction d with
  | zero =>
    intro j hj
    refine Ev.step (f := fun _ => some true) (fun k => ?_) (Ev.now _)
    simp only [moatref12_Same.l0]
    rw [if_neg (by omega)]
  | succ d ih =>
    intro j hj
    refine Ev.step (fun k => ?_) (ih (j + 1) (by omega))
    simp only [moatref12_Same.l0]
    rw [if_pos (by omega), if_pos (by omega), if_pos (by omega), w_one j (by omega), if_neg (by simp)]
theorem same_ev (xs : List S23) (hs : xs.length ≤ 240) : Ev (fun k => moatref12_Same.f k xs xs) true := by
  refine Ev.congr (fun k => ?_) (ev_same_l0 xs hs xs.length 0 (by omega))
  unfold moatref12_Same.f
  rw [if_pos rfl]; rfl
end Go.Proofs.Ytinfjmdcmfpdiaa.Md

/- entry.Find: every row of bytes, every name. -/
namespace Go.Proofs.Ytinfjmdcmfpdiaa.Fn
open Go.RowKit Go.Proofs.Ytinfjmdcmfpdiaa.Rt Go.Proofs.Ytinfjmdcmfpdiaa.Md Go.Proofs.Ytinfjmdcmfpdiaa.Al Go.Proofs.Ytinfjmdcmfpdiaa.Pc Go.Proofs.YtinfjmdcmfpdiaaW.PrintWords Go.Proofs.YtinfjmdcmfpdiaaW.PrintLast Go.Proofs.YtinfjmdcmfpdiaaW.PrintMore
set_option linter.unusedVariables false
set_option linter.unusedSimpArgs false

theorem allA_none {l : List Int} (h : dirO l = none) : allA l = ([], 121) := by unfold allA; rw [h]; rfl
theorem allA_some {l : List Int} {s : List Sl} (h : dirO l = some s) : allA l = (entsOf s, 0) := by unfold allA; rw [h]; rfl
/-- entry.All in the two cases. -/
theorem all_no (A0 : Option Addr) (c0 : Nat) (l0 : List Int) (w : World) (hb : Bytes l0) (hr0 : Kd.C (Kd.int .u8) w A0 l0.length l0) (hc0 : l0.length ≤ c0) (hd : dirO l0 = none) :
    Calls Try.prog 23 #[.slice A0 l0.length c0] w fun e w' => ∃ v : Value, e = .returned (.tuple #[v, .int .i64 121]) ∧ Kd.R D.k23 23 w' w.heap.size (fun _ => True) v [] ∧ Below w.heap.size w w' := by
  have h := all_any A0 c0 l0 w hb hr0 hc0
  rw [allA_none hd] at h
  exact h
theorem all_yes (A0 : Option Addr) (c0 : Nat) (l0 : List Int) (w : World) (hb : Bytes l0) (hr0 : Kd.C (Kd.int .u8) w A0 l0.length l0) (hc0 : l0.length ≤ c0) {s : List Sl} (hd : dirO l0 = some s) :
    Calls Try.prog 23 #[.slice A0 l0.length c0] w fun e w' => ∃ v : Value, e = .returned (.tuple #[v, .int .i64 0]) ∧ Kd.R D.k23 23 w' w.heap.size (fun _ => True) v (entsOf s) ∧ Below w.heap.size w w' := by
  have h := all_any A0 c0 l0 w hb hr0 hc0
  rw [allA_some hd] at h
  exact h
theorem place_yes (A0 : Option Addr) (c0 : Nat) (l0 : List Int) (n : ByteArray) (w : World) (hn : n.size ≤ maxLen) {s : List Sl} (hd : dirO l0 = some s) (hr0 : Kd.C (Kd.int .u8) w A0 l0.length l0) (hc0 : l0.length ≤ c0) {p : Int} (hp : placeA s n = p) :
    Calls Try.prog 35 #[.slice A0 l0.length c0, .string n] w fun e w' => e = .returned (.int .i64 p) ∧ Below w.heap.size w w' := by
  obtain ⟨h1, h2⟩ := dir_good hd
  have h := place_any A0 c0 l0 n s w hn h2.ok h2.room h1 hr0 hc0
  rw [hp] at h
  exact h

set_option maxHeartbeats 2000000 in
set_option maxRecDepth 100000 in
theorem find_no (A0 : Option Addr) (c0 : Nat) (l0 : List Int) (n : ByteArray) (w : World) (hb : Bytes l0) (hr0 : Kd.C (Kd.int .u8) w A0 l0.length l0) (hc0 : l0.length ≤ c0) (hd : dirO l0 = none) :
    Calls Try.prog 25 #[.slice A0 l0.length c0, .string n] w fun e w' => e = .returned (.tuple #[.int .i64 0, .bool false]) ∧ Below w.heap.size w w' := by
  have HR := Lib.hid hr0
  have HB := Lib.hid hb
  have HD := Lib.hid hd
  clear hb hr0 hd
  go_enter Try.func25, Try.ntmps25
  go_wp2_with fail
  refine (all_no A0 c0 l0 _ HB.out HR.out hc0 HD.out).mono ?_
  rintro e w1 ⟨v, rfl, -, hb⟩
  have hB := Lib.hid hb
  clear hb
  go_wp2_with fail
  go_ret2
  exact ⟨rfl, hB.out⟩

set_option maxHeartbeats 2000000 in
set_option maxRecDepth 100000 in
theorem find_miss (A0 : Option Addr) (c0 : Nat) (l0 : List Int) (n : ByteArray) (w : World) (hn : n.size ≤ maxLen) (hb : Bytes l0) (hr0 : Kd.C (Kd.int .u8) w A0 l0.length l0) (hc0 : l0.length ≤ c0) {s : List Sl} (hd : dirO l0 = some s) (hp : placeA s n = -1) :
    Calls Try.prog 25 #[.slice A0 l0.length c0, .string n] w fun e w' => e = .returned (.tuple #[.int .i64 0, .bool false]) ∧ Below w.heap.size w w' := by
  have HR := Lib.hid hr0
  have HB := Lib.hid hb
  have HD := Lib.hid hd
  have HP := Lib.hid hp
  clear hb hr0 hd hp
  go_enter Try.func25, Try.ntmps25
  go_wp2_with fail
  refine (all_yes A0 c0 l0 _ HB.out HR.out hc0 HD.out).mono ?_
  rintro e w1 ⟨v, rfl, -, hb⟩
  have hB := Lib.hid hb
  clear hb
  go_wp2_with fail
  refine (place_yes A0 c0 l0 n _ hn HD.out (Kd.C_below HR.out hB.out) hc0 HP.out).mono ?_
  rintro e w2 ⟨rfl, hb⟩
  replace hB := Lib.hid (below_step hB.out hb)
  clear hb
  go_wp2_with fail
  go_ret2
  exact ⟨rfl, hB.out⟩

set_option maxHeartbeats 2000000 in
set_option maxRecDepth 100000 in
theorem find_hit (A0 : Option Addr) (c0 : Nat) (l0 : List Int) (n : ByteArray) (w : World) (hn : n.size ≤ maxLen) (hb : Bytes l0) (hr0 : Kd.C (Kd.int .u8) w A0 l0.length l0) (hc0 : l0.length ≤ c0) {s : List Sl} (hd : dirO l0 = some s) {j : Nat} {i : Int} (hj : j < s.length) (hp : placeA s n = (j : Int)) (hs : s[j] = some (n, i)) :
    Calls Try.prog 25 #[.slice A0 l0.length c0, .string n] w fun e w' => e = .returned (.tuple #[.int .i64 i, .bool true]) ∧ Below w.heap.size w w' := by
  obtain ⟨hl, hg⟩ := dir_good hd
  have hlen : Hid (l0.length = 16 * s.length) := Lib.hid (by rw [hl]; exact bytesS_len hg.ok)
  have hroom := hg.room
  have hok : okE (n, i) := hg.ok _ (by rw [← hs]; exact List.getElem_mem hj)
  have hi0 : 0 ≤ i := hok.2.1
  have hi1 : i < 64 := hok.2.2
  have b1 : decide ((j : Int) < 0) = false := decide_eq_false (by omega)
  have HR := Lib.hid hr0
  have HB := Lib.hid hb
  have HD := Lib.hid hd
  have HP := Lib.hid hp
  have HL := Lib.hid hl
  have HS := Lib.hid hs
  obtain ⟨ad, rfl⟩ : ∃ ad, A0 = some ad := by obtain ⟨ad, e, _⟩ := hr0.2.2 (by have := hlen.out; omega); exact ⟨ad, e⟩
  obtain ⟨adk, hadk⟩ : ∃ a, a = ad.add (j * 16) := ⟨_, rfl⟩
  replace hadk := Lib.hid hadk
  clear hb hr0 hd hp hl hs
  go_enter Try.func25, Try.ntmps25
  go_wp2_with fail
  refine (all_yes (some ad) c0 l0 _ HB.out HR.out hc0 HD.out).mono ?_
  rintro e w1 ⟨v, rfl, -, hb⟩
  have hB := Lib.hid hb
  clear hb
  go_wp2_with fail
  refine (place_yes (some ad) c0 l0 n _ hn HD.out (Kd.C_below HR.out hB.out) hc0 HP.out).mono ?_
  rintro e w2 ⟨rfl, hb⟩
  replace hB := Lib.hid (below_step hB.out hb)
  clear hb
  obtain ⟨-, -, g2⟩ := cell_ent (ent_slot HR.out hc0 hB.out HL.out hg.ok hj hadk.out) HS.out hok
  clear hok
  go_wp2_with fail
  refine (at_e ad adk l0.length c0 j (by have := hlen.out; omega) hc0 (by have := hlen.out; omega) hadk _).mono ?_
  rintro e w3 ⟨rfl, hw⟩
  subst hw
  go_wp2_with fail
  go_ret2
  exact ⟨rfl, hB.out⟩

theorem find_any (A0 : Option Addr) (c0 : Nat) (l0 : List Int) (n : ByteArray) (w : World) (hn : n.size ≤ maxLen) (hb : Bytes l0) (hr0 : Kd.C (Kd.int .u8) w A0 l0.length l0) (hc0 : l0.length ≤ c0) :
    Calls Try.prog 25 #[.slice A0 l0.length c0, .string n] w fun e w' => e = .returned (.tuple #[.int .i64 (findA l0 n).1, .bool (findA l0 n).2]) ∧ Below w.heap.size w w' := by
  unfold findA
  cases hd : dirO l0 with
  | none => exact find_no A0 c0 l0 n w hb hr0 hc0 hd
  | some s =>
    rcases place_cases n s with ⟨h1, h2, h3⟩ | ⟨j, i, hj, h1, h2, h3⟩
    · simp only; rw [h2]; exact find_miss A0 c0 l0 n w hn hb hr0 hc0 hd h1
    · simp only; rw [h3]; exact find_hit A0 c0 l0 n w hn hb hr0 hc0 hd hj h1 h2
end Go.Proofs.Ytinfjmdcmfpdiaa.Fn

/- copy of bytes into the middle of a row of one's own, as a run; entry.at and entry.free on such a row. -/
namespace Go.Proofs.Ytinfjmdcmfpdiaa.Cp
open Go.RowKit Go.Proofs.Ytinfjmdcmfpdiaa.Rt Go.Proofs.Ytinfjmdcmfpdiaa.Md Go.Proofs.Ytinfjmdcmfpdiaa.Al Go.Proofs.Ytinfjmdcmfpdiaa.Pc Go.Proofs.YtinfjmdcmfpdiaaW.PrintWords Go.Proofs.YtinfjmdcmfpdiaaW.PrintLast Go.Proofs.YtinfjmdcmfpdiaaW.PrintMore
set_option linter.unusedVariables false
set_option linter.unusedSimpArgs false

theorem C_lenx' {w : World} {A : Option Addr} {m : Nat} {xs : List Int} (h : xs.length = m) (hC : Go.Proofs.YtinfjmdcmfpdiaaW.PrintWords.Kd.C (Go.Proofs.YtinfjmdcmfpdiaaW.PrintWords.Kd.int .u8) w A xs.length xs) : Go.Proofs.YtinfjmdcmfpdiaaW.PrintWords.Kd.C (Go.Proofs.YtinfjmdcmfpdiaaW.PrintWords.Kd.int .u8) w A m xs := h ▸ hC
theorem take_splice {α : Type} (L : List α) (xs ys : List α) (o n : Nat) (hL : L.take n = xs) (hn : xs.length = n) (hf : o + ys.length ≤ n) :
    (L.take o ++ ys ++ L.drop (o + ys.length)).take n = xs.take o ++ ys ++ xs.drop (o + ys.length) := by
  have hl : n ≤ L.length := by
    have := congrArg List.length hL
    rw [List.length_take] at this
    omega
  have e : L = xs ++ L.drop n := by rw [← hL, List.take_append_drop]
  have h1 : L.take o = xs.take o := by rw [e, List.take_append_of_le_length (by omega)]
  have h2 : L.drop (o + ys.length) = xs.drop (o + ys.length) ++ L.drop n := by
    conv => lhs; rw [e]
    rw [List.drop_append_of_le_length (by omega)]
  rw [h1, h2, ← List.append_assoc, List.take_append_of_le_length, List.take_of_length_le]
  · simp only [List.length_append, List.length_take, List.length_drop]; omega
  · simp only [List.length_append, List.length_take, List.length_drop]; omega

theorem copy_into {W w0 : World} {base g cap o dcap scap : Nat} {ok : Nat → Prop} {a : Addr} {xs ys : List Int} (T : TypeId) (hT : T = 24) (hO : Kd.R (Kd.int .u8) 5 W base ok (.slice (some ⟨g, 0, none⟩) xs.length cap) xs) (hB : Below base w0 W)
    (hy : Kd.C (Kd.int .u8) W (some a) ys.length ys) (hfit : o + ys.length ≤ xs.length) :
    ∃ W' : World, (∀ d s : Nat, ys.length = d → ys.length = s → (Builtin.copy_ #[T, T] 3 #[.slice (some ⟨g, o, none⟩) d dcap, .slice (some a) s scap]).run Try.prog W = .ok (.int .i64 (d : Int)) W') ∧
      Kd.R (Kd.int .u8) 5 W' base ok (.slice (some ⟨g, 0, none⟩) xs.length cap) (xs.take o ++ ys ++ xs.drop (o + ys.length)) ∧ Below base w0 W' ∧ W.grownBy W' (some g) := by
  subst hT
  have hown := Kd.own_of_R hO
  obtain ⟨hlen, hor⟩ := hown
  rcases hor with ⟨h1, -⟩ | ⟨g', cap', cells, h1, hbase, hheap, hfitc, hmax, hsz, htk⟩
  · cases h1
  · injection h1 with h1 h2 h3
    injection h1 with h1
    injection h1 with h1
    subst h1
    obtain ⟨i0, hi, hz0, hz1, hz2⟩ := info_parts Rl.info_u8
    have hcs : (encs (Value.int .u8) ys).length = ys.length := by simp [encs]
    have hrun := run_copy_row (P := Try.prog) W 24 24 3 5 g o ys.length dcap a ys.length scap cells 5 (encs (Value.int .u8) ys) Try.underlying24 (by rw [hi]; simp [hz1]) hheap (by rw [hcs]; simp)
      (fun j v hj => by
        have hjl : j < ys.length := by
          rcases Nat.lt_or_ge j ys.length with h | h
          · exact h
          · rw [List.getElem?_eq_none (by rw [hcs]; exact h)] at hj; cases hj
        rw [ent_cell hy j hjl]
        simp only [encs, List.getElem?_map, List.getElem?_eq_getElem hjl, Option.map_some, Option.some.injEq] at hj
        rw [← hj, List.getD_eq_getElem?_getD, List.getElem?_eq_getElem hjl]; rfl)
      (by rw [hcs]; have := hsz; omega) (fun v hv => by obtain ⟨x, _, rfl⟩ := List.mem_map.1 hv; rfl)
    have hgo : goInt (encs (Value.int .u8) ys).length = .int .i64 (ys.length : Int) := by rw [hcs]; rfl
    rw [hgo] at hrun
    have hl2 : (xs.take o ++ ys ++ xs.drop (o + ys.length)).length = xs.length := by
      simp only [List.length_append, List.length_take, List.length_drop]; omega
    refine ⟨_, fun d s hd hs => by subst hd; subst hs; exact hrun, ?_, below_setRow hB hbase _, ⟨rfl, rfl, rfl, by simp [World.setRow], fun k hk hne => setRow_other W g k _ (fun h => hne (by rw [h]))⟩⟩
    have hR := Kd.R_of_own (enc := Value.int .u8) (h1 := fun _ => rfl) (e := 5) (w := W.setRow g (cells.toList.take o ++ encs (Value.int .u8) ys ++ cells.toList.drop (o + (encs (Value.int .u8) ys).length)).toArray) (base := base) (ok := ok) (v := .slice (some ⟨g, 0, none⟩) xs.length cap) (xs := xs.take o ++ ys ++ xs.drop (o + ys.length))
      (by
        rw [hl2]
        refine ⟨by simp only [encs, List.length_map]; rw [hl2, Nat.mul_one], .inr ⟨g, cap', (cells.toList.take o ++ encs (Value.int .u8) ys ++ cells.toList.drop (o + (encs (Value.int .u8) ys).length)).toArray, by rw [h3], hbase, setRow_heap W g cells _ _ _ hheap, hfitc, hmax, ?_, ?_⟩⟩
        · rw [hcs]
          simp only [List.size_toArray, List.length_append, List.length_take, List.length_drop, Array.length_toList, hcs]
          have := hsz
          simp only [Nat.mul_one] at this ⊢
          omega
        · have := take_splice cells.toList (encs (Value.int .u8) xs) (encs (Value.int .u8) ys) o (xs.length * 1) htk (by simp [encs]) (by rw [hcs]; omega)
          rw [this]
          simp [encs]) hO.1
    exact hR

/-- entry.at on a row of one's own. -/
theorem at_o (g n c i o : Nat) (hi : (i + 1) * 16 ≤ n) (hc : n ≤ c) (hn : n ≤ 100000) (ho : Hid (o = i * 16)) (w : World) :
    Calls Try.prog 36 #[.slice (some ⟨g, 0, none⟩) n c, .int .i64 i] w fun e w' => e = .returned (.slice (some ⟨g, o, none⟩) 16 (c - o)) ∧ w' = w := by
  have h := At.at_any ⟨g, 0, none⟩ n c i hi hc hn w
  rw [add_plain, ← ho.out] at h
  exact h
/-- entry.free on a slot's bytes. -/
theorem free_slot {w : World} {adk : Addr} {s : Sl} {c : Nat} (h : Kd.C (Kd.int .u8) w (some adk) (slotB s).length (slotB s)) (hs : ∀ e, s = some e → okE e) (hc : 16 ≤ c) {r : Bool} (hr : s.isNone = r) :
    Calls Try.prog 33 #[.slice (some adk) 16 c] w fun e w' => e = .returned (.bool r) ∧ Below w.heap.size w w' := by
  have hl : (slotB s).length = 16 := slotB_len (s := [s]) (fun e he => hs e (List.mem_singleton.1 he).symm) (by simp)
  have hb : Bytes (slotB s) := slotB_bytes (s := [s]) (fun e he => hs e (List.mem_singleton.1 he).symm) (by simp)
  have hf : P.entry_free.f (slotB s) = some r := by
    unfold P.entry_free.f
    rw [if_pos (by decide)]
    congr 1
    rw [← hr]
    cases s with
    | none => rw [show (none : Sl).isNone = true from rfl, beq_iff_eq]; rfl
    | some e =>
      rw [show (some e : Sl).isNone = false from rfl, beq_eq_false_iff_ne]
      intro h
      exact layL_ne e.1 e.2 (hs e rfl).size.1 ((str_inj hb (Bytes.zeros 16)).1 h)
  have := P.entry_free.calls (some adk) c (slotB s) r w h (by omega) hf
  rw [hl] at this
  exact this
/-- The k-th slot of a row of one's own. -/
theorem R_ent {w : World} {g o cap base k : Nat} {ok : Nat → Prop} {s : List Sl} {l0 : List Int} (h : Kd.R (Kd.int .u8) 5 w base ok (.slice (some ⟨g, 0, none⟩) l0.length cap) l0) (hL : l0 = bytesS s) (hs : AllOk s) (hk : k < s.length) (ho : o = k * 16) :
    Kd.C (Kd.int .u8) w (some ⟨g, o, none⟩) (slotB s[k]).length (slotB s[k]) := by
  obtain ⟨-, hc, hC⟩ := Kd.R_reads' h
  have := ent_slot (k := k) (adk := ⟨g, o, none⟩) hC hc (Below.refl _ _) hL hs hk (by rw [add_plain, ho])
  exact this
end Go.Proofs.Ytinfjmdcmfpdiaa.Cp

/- entry.Add: every row of bytes, every entry. -/
namespace Go.Proofs.Ytinfjmdcmfpdiaa.Ad
open Go.RowKit Go.Proofs.Ytinfjmdcmfpdiaa.Rt Go.Proofs.Ytinfjmdcmfpdiaa.Md Go.Proofs.Ytinfjmdcmfpdiaa.Al Go.Proofs.Ytinfjmdcmfpdiaa.Pc Go.Proofs.Ytinfjmdcmfpdiaa.Fn Go.Proofs.Ytinfjmdcmfpdiaa.Cp Go.Proofs.YtinfjmdcmfpdiaaW.PrintWords Go.Proofs.YtinfjmdcmfpdiaaW.PrintLast Go.Proofs.YtinfjmdcmfpdiaaW.PrintMore
set_option linter.unusedVariables false
set_option linter.unusedSimpArgs false

def Post (w : World) (r : List Int × Int) (e : Ending) (w' : World) : Prop :=
  ∃ v : Value, e = .returned (.tuple #[v, .int .i64 r.2]) ∧ Kd.R (Kd.int .u8) 5 w' w.heap.size (fun _ => True) v r.1 ∧ Below w.heap.size w w'

set_option maxHeartbeats 2000000 in
set_option maxRecDepth 100000 in
theorem add_no (A0 : Option Addr) (c0 : Nat) (l0 : List Int) (n : ByteArray) (ino : Int) (w : World) (hb : Bytes l0) (hr0 : Kd.C (Kd.int .u8) w A0 l0.length l0) (hc0 : l0.length ≤ c0) (hd : dirO l0 = none) :
    Calls Try.prog 18 #[.slice A0 l0.length c0, .agg #[.string n, .int .i64 ino]] w (Post w ([], 121)) := by
  have HR := Lib.hid hr0
  have HB := Lib.hid hb
  have HD := Lib.hid hd
  clear hb hr0 hd
  go_enter Try.func18, Try.ntmps18
  go_wp2_with fail
  refine (all_no A0 c0 l0 _ HB.out (Kd.C_alloc HR.out _) hc0 HD.out).mono ?_
  rintro e w1 ⟨v, rfl, -, hb⟩
  have hB := Lib.hid (below_step (below_alloc (Below.refl _ _) _) hb)
  clear hb
  go_wp2_with fail
  go_ret2
  exact ⟨_, rfl, Kd.R_nil _ _ _ _ _, hB.out⟩

set_option maxHeartbeats 2000000 in
set_option maxRecDepth 100000 in
theorem add_lay (A0 : Option Addr) (c0 : Nat) (l0 : List Int) (n : ByteArray) (ino : Int) (w : World) (hb : Bytes l0) (hr0 : Kd.C (Kd.int .u8) w A0 l0.length l0) (hc0 : l0.length ≤ c0) {s : List Sl} (hd : dirO l0 = some s) {r : List Int × Int} (hl : La.layA n ino = r) (h0 : r.2 ≠ 0) :
    Calls Try.prog 18 #[.slice A0 l0.length c0, .agg #[.string n, .int .i64 ino]] w (Post w ([], r.2)) := by
  obtain ⟨r1, r2⟩ := r
  have HR := Lib.hid hr0
  have HB := Lib.hid hb
  have HD := Lib.hid hd
  have HL : Hid (P.entry_Lay.f n ino = some (r1, r2)) := Lib.hid (by unfold P.entry_Lay.f; rw [hl])
  have e0 : (r2 != 0) = true := by rw [bne_iff_ne]; exact h0
  clear hb hr0 hd hl h0
  go_enter Try.func18, Try.ntmps18
  go_wp2_with fail
  refine (all_yes A0 c0 l0 _ HB.out (Kd.C_alloc HR.out _) hc0 HD.out).mono ?_
  rintro e w1 ⟨v, rfl, -, hb⟩
  have hbox := blk_below (blk_new w (.cells #[.string n, .int .i64 ino] 23)) hb
  have hB := Lib.hid (below_step (below_alloc (Below.refl _ _) _) hb)
  have d0 : w1.cell? ⟨w.heap.size, 0, none⟩ = some (.string n) := (blk_cell hbox 0).trans rfl
  have d1 : w1.cell? ⟨w.heap.size, 1, none⟩ = some (.int .i64 ino) := (blk_cell hbox 1).trans rfl
  clear hb hbox
  go_wp2_with fail
  refine (P.entry_Lay.calls n ino r1 r2 _ HL.out).mono ?_
  rintro e w2 ⟨v2, rfl, -, hb⟩
  replace hB := Lib.hid (below_step hB.out hb)
  clear hb d0 d1
  go_wp2_with fail
  go_ret2
  exact ⟨_, rfl, Kd.R_nil _ _ _ _ _, hB.out⟩

set_option maxHeartbeats 2000000 in
set_option maxRecDepth 100000 in
theorem add_there (A0 : Option Addr) (c0 : Nat) (l0 : List Int) (n : ByteArray) (ino : Int) (w : World) (hb : Bytes l0) (hr0 : Kd.C (Kd.int .u8) w A0 l0.length l0) (hc0 : l0.length ≤ c0) {s : List Sl} (hd : dirO l0 = some s) {Y : List Int} (hn : n.size ≤ maxLen) (hl : La.layA n ino = (Y, 0)) {p : Int} (hp : placeA s n = p) (h0 : 0 ≤ p) :
    Calls Try.prog 18 #[.slice A0 l0.length c0, .agg #[.string n, .int .i64 ino]] w (Post w ([], 3)) := by
  have HR := Lib.hid hr0
  have HB := Lib.hid hb
  have HD := Lib.hid hd
  have HP := Lib.hid hp
  have HL : Hid (P.entry_Lay.f n ino = some (Y, 0)) := Lib.hid (by unfold P.entry_Lay.f; rw [hl])
  have e0 : decide (p ≥ 0) = true := decide_eq_true h0
  clear hb hr0 hd hl hp
  go_enter Try.func18, Try.ntmps18
  go_wp2_with fail
  refine (all_yes A0 c0 l0 _ HB.out (Kd.C_alloc HR.out _) hc0 HD.out).mono ?_
  rintro e w1 ⟨v, rfl, -, hb⟩
  have hbox := Lib.hid (blk_below (blk_new w (.cells #[.string n, .int .i64 ino] 23)) hb)
  have hB := Lib.hid (below_step (below_alloc (Below.refl _ _) _) hb)
  have d0 : w1.cell? ⟨w.heap.size, 0, none⟩ = some (.string n) := (blk_cell hbox.out 0).trans rfl
  have d1 : w1.cell? ⟨w.heap.size, 1, none⟩ = some (.int .i64 ino) := (blk_cell hbox.out 1).trans rfl
  clear hb
  go_wp2_with fail
  refine (P.entry_Lay.calls n ino Y 0 _ HL.out).mono ?_
  rintro e w2 ⟨v2, rfl, -, hb⟩
  replace hB := Lib.hid (below_step hB.out hb)
  replace hbox := Lib.hid (blk_below hbox.out hb)
  clear hb d0 d1
  have d0 : w2.cell? ⟨w.heap.size, 0, none⟩ = some (.string n) := (blk_cell hbox.out 0).trans rfl
  go_wp2_with fail
  refine (place_yes A0 c0 l0 n _ hn HD.out (Kd.C_below HR.out hB.out) hc0 HP.out).mono ?_
  rintro e w3 ⟨rfl, hb⟩
  replace hB := Lib.hid (below_step hB.out hb)
  clear hb d0
  go_wp2_with fail
  go_ret2
  exact ⟨_, rfl, Kd.R_nil _ _ _ _ _, hB.out⟩

set_option maxHeartbeats 8000000 in
set_option maxRecDepth 100000 in
theorem add_fill (A0 : Option Addr) (c0 : Nat) (l0 : List Int) (n : ByteArray) (ino : Int) (w : World) (hb : Bytes l0) (hr0 : Kd.C (Kd.int .u8) w A0 l0.length l0) (hc0 : l0.length ≤ c0) {s : List Sl} (hd : dirO l0 = some s) (hn : n.size ≤ maxLen) (hok : okE (n, ino)) (hp : placeA s n = -1) :
    Calls Try.prog 18 #[.slice A0 l0.length c0, .agg #[.string n, .int .i64 ino]] w (Post w (fillS s (n, ino) (freeGo s 0))) := by
  obtain ⟨hl, hg⟩ := dir_good hd
  have hlen : Hid (l0.length = 16 * s.length) := Lib.hid (by rw [hl]; exact bytesS_len hg.ok)
  have hroom := hg.room
  have hl0 : l0.length ≤ 3840 := by have := hlen.out; omega
  have HG := Lib.hid hg
  have HR := Lib.hid hr0
  have HB := Lib.hid hb
  have HD := Lib.hid hd
  have HP := Lib.hid hp
  have HS := Lib.hid hl
  have HO := Lib.hid hok
  obtain ⟨Y, hY⟩ : ∃ Y, Y = La.layL n ino := ⟨_, rfl⟩
  have hY16 : Hid (Y.length = 16) := Lib.hid (by rw [hY]; exact La.layL_len n ino (okE.size hok).2)
  have HL : Hid (P.entry_Lay.f n ino = some (Y, 0)) := Lib.hid (by unfold P.entry_Lay.f; rw [layA_right hok.1 hok.2.1 hok.2.2, hY])
  replace hY := Lib.hid hY
  obtain ⟨F, hF⟩ : ∃ F, F = freeGo s 0 := ⟨_, rfl⟩
  rw [← hF]
  have HF0 : Hid (freeGo (s.drop 0) 0 = F) := Lib.hid (by rw [List.drop_zero, hF])
  clear hb hr0 hd hl hp hok hg hF
  go_enter Try.func18, Try.ntmps18
  go_wp2_with fail
  refine (all_yes A0 c0 l0 _ HB.out (Kd.C_alloc HR.out _) hc0 HD.out).mono ?_
  rintro e w1 ⟨v, rfl, -, hb⟩
  have hbox := Lib.hid (blk_below (blk_new w (.cells #[.string n, .int .i64 ino] 23)) hb)
  have hB := Lib.hid (below_step (below_alloc (Below.refl _ _) _) hb)
  have d0 : w1.cell? ⟨w.heap.size, 0, none⟩ = some (.string n) := (blk_cell hbox.out 0).trans rfl
  have d1 : w1.cell? ⟨w.heap.size, 1, none⟩ = some (.int .i64 ino) := (blk_cell hbox.out 1).trans rfl
  clear hb
  go_wp2_with fail
  refine (P.entry_Lay.calls n ino Y 0 _ HL.out).mono ?_
  rintro e w2 ⟨v2, rfl, hy, hb⟩
  obtain ⟨gy, cy, ey, hgy, -, -⟩ := Kd.R_form hy (by have := hY16.out; omega)
  rw [hY16.out] at ey
  subst ey
  replace hy := Lib.hid (Kd.R_lower hy hB.out.size)
  replace hB := Lib.hid (below_step hB.out hb)
  replace hbox := Lib.hid (blk_below hbox.out hb)
  clear hb d0 d1
  have d0 : w2.cell? ⟨w.heap.size, 0, none⟩ = some (.string n) := (blk_cell hbox.out 0).trans rfl
  go_wp2_with fail
  refine (place_yes A0 c0 l0 n _ hn HD.out (Kd.C_below HR.out hB.out) hc0 HP.out).mono ?_
  rintro e w3 ⟨rfl, hb⟩
  replace hB := Lib.hid (below_step hB.out hb)
  replace hy := Lib.hid (Kd.R_below hy.out hb)
  clear hb d0 hbox
  go_wp2_with (at_builtin; refine Kd.R_append_row (Value.int .u8) (0 : Int) (w0 := w) w.heap.size rfl (.const (.slice none 0 0)) (.tmp 33) 24 5 (.int .u8 0) 1 rfl Try.underlying24 Rl.info_u8 rfl (by decide) (.slice none 0 0) [] l0 A0 l0.length c0 (fun _ => True) rfl rfl (fun _ _ => trivial) (Kd.R_nil _ _ _ _ _) (Kd.C_below HR.out hB.out) hB.out hB.out.size (by simp; omega) ?_; intro v4 w4 ho4 hb4 hg4 hat4; have hy4 := Lib.hid (Kd.R_grown hy.out hg4 (fun k hk => by simp [Value.ownBlock])); rw [List.nil_append] at ho4; obtain ⟨A4, k4, e4⟩ := Kd.R_slice ho4; subst e4; replace ho4 := Lib.hid ho4; replace hb4 := Lib.hid hb4; clear hg4 hat4 hy hB)
  go_loopw [38] (fun i wr => ∃ k : Nat, i = .int .i64 k ∧ k ≤ s.length ∧ Hid (freeGo (s.drop k) k = F) ∧ Hid (Kd.R (Kd.int .u8) 5 wr w.heap.size (fun _ => True) (.slice A4 l0.length k4) l0) ∧ Hid (Kd.R (Kd.int .u8) 5 wr w.heap.size (fun _ => True) (.slice (some ⟨gy, 0, none⟩) 16 cy) Y) ∧ Hid (Below w.heap.size w wr)) (fun i _ => s.length - (intOf i).toNat)
  case atStart => exact ⟨0, rfl, Nat.zero_le _, HF0, ho4, hy4, hb4⟩
  case round =>
    obtain ⟨k, rfl, hk, hF, hO, hy, hB⟩ := hrel
    clear HF0 ho4 hy4 hb4
    by_cases hlt : k < s.length
    · have c1 : decide ((k : Int) < (l0.length : Int) / 16) = true := decide_eq_true (by have := hlen.out; omega)
      obtain ⟨g, cap, ev, -⟩ := Kd.R_form hO.out (by have := hlen.out; omega)
      injection ev with e1 _ e3
      subst e1 e3
      have hcap := (Kd.R_reads' hO.out).2.1
      obtain ⟨o, ho⟩ : ∃ o, o = k * 16 := ⟨_, rfl⟩
      have ho2 : o + 16 ≤ l0.length := by have := hlen.out; omega
      replace ho := Lib.hid ho
      have hC := Lib.hid (R_ent hO.out HS.out HG.out.ok hlt ho.out)
      have hok : Hid (∀ e, s[k] = some e → okE e) := Lib.hid (fun e he => HG.out.ok e (by rw [← he]; exact List.getElem_mem hlt))
      cases hsk : s[k] with
      | none =>
        have hFk : Hid (F = some k) := Lib.hid (hF.out.symm.trans (freeGo_drop_none hlt hsk))
        clear hF
        have hN : Hid (s[k].isNone = true) := Lib.hid (by rw [hsk]; rfl)
        clear hsk
        go_wp2_with fail
        refine (at_o g l0.length k4 k o (by have := hlen.out; omega) hcap (by omega) ho _).mono ?_
        rintro e w5 ⟨rfl, hw⟩
        subst hw
        go_wp2_with fail
        refine (free_slot hC.out hok.out (by have := ho.out; omega) hN.out).mono ?_
        rintro e w6 ⟨rfl, hb⟩
        replace hO := Lib.hid (Kd.R_below hO.out hb)
        replace hy := Lib.hid (Kd.R_below hy.out hb)
        replace hB := Lib.hid (below_step hB.out hb)
        clear hb hC
        go_wp2_with fail
        refine (at_o g l0.length k4 k o (by have := hlen.out; omega) hcap (by omega) ho _).mono ?_
        rintro e w7 ⟨rfl, hw⟩
        subst hw
        obtain ⟨w8, hcp, ho8, hb8, -⟩ := copy_into (T := 24) (dcap := k4 - o) (scap := cy) rfl hO.out hB.out (C_lenx' rfl (Kd.R_reads' hy.out).2.2) (o := o) (by have := hY16.out; omega)
        replace hcp := hcp 16 16 hY16.out hY16.out
        replace ho8 := Lib.hid ho8
        replace hb8 := Lib.hid hb8
        go_wp2_with fail
        go_ret2
        rw [hFk.out]
        show Post w (bytesS (s.set k (some (n, ino))), 0) _ _
        have e : l0.take o ++ Y ++ l0.drop (o + Y.length) = bytesS (s.set k (some (n, ino))) := by
          rw [← bytesS_set HG.out.ok hlt (o := some (n, ino)) (La.layL_len n ino (okE.size HO.out).2), HS.out, ho.out, Nat.mul_comm k 16, hY.out]; rfl
        refine ⟨_, rfl, ?_, hb8.out⟩
        have h := ho8.out
        rw [e] at h
        exact h
      | some e =>
        have hFk : Hid (freeGo (s.drop (k + 1)) (k + 1) = F) := Lib.hid ((freeGo_drop_some hlt hsk).symm.trans hF.out)
        clear hF
        have hN : Hid (s[k].isNone = false) := Lib.hid (by rw [hsk]; rfl)
        clear hsk
        go_wp2_with fail
        refine (at_o g l0.length k4 k o (by have := hlen.out; omega) hcap (by omega) ho _).mono ?_
        rintro e w5 ⟨rfl, hw⟩
        subst hw
        go_wp2_with fail
        refine (free_slot hC.out hok.out (by have := ho.out; omega) hN.out).mono ?_
        rintro e w6 ⟨rfl, hb⟩
        replace hO := Lib.hid (Kd.R_below hO.out hb)
        replace hy := Lib.hid (Kd.R_below hy.out hb)
        replace hB := Lib.hid (below_step hB.out hb)
        clear hb hC
        go_wp2_with fail
        go_roundw
        case rel => exact ⟨k + 1, by go_num, by omega, hFk, hO, hy, hB⟩
        case measure => simp [intOf]; omega
    · obtain rfl : k = s.length := by omega
      have c1 : decide ((s.length : Int) < (l0.length : Int) / 16) = false := decide_eq_false (by have := hlen.out; omega)
      have hFk : Hid (F = none) := Lib.hid (by rw [← hF.out, List.drop_length]; rfl)
      clear hF
      by_cases hfull : s.length < 240
      · have c2 : decide ((l0.length : Int) + 16 > 3840) = false := decide_eq_false (by have := hlen.out; omega)
        go_wp2_with (at_builtin; refine Kd.R_append_row (Value.int .u8) (0 : Int) (w0 := w) w.heap.size rfl (.tmp 56) (.tmp 57) 24 5 (.int .u8 0) 1 rfl Try.underlying24 Rl.info_u8 rfl (by decide) (.slice A4 l0.length k4) l0 Y (some ⟨gy, 0, none⟩) 16 cy (fun _ => True) rfl rfl (fun _ _ => trivial) hO.out (C_lenx' hY16.out (Kd.R_reads' hy.out).2.2) hB.out hB.out.size (by omega) ?_; intro v5 w5 ho5 hb5 hg5 hat5; clear hg5 hat5; replace ho5 := Lib.hid ho5; replace hb5 := Lib.hid hb5)
        go_ret2
        rw [hFk.out]
        show Post w (if s.length < 240 then (bytesS (s ++ [some (n, ino)]), 0) else ([], 5)) _ _
        rw [if_pos hfull]
        have e : l0 ++ Y = bytesS (s ++ [some (n, ino)]) := by rw [bytesS_append, HS.out, hY.out]; simp [bytesS, slotB]
        refine ⟨_, rfl, ?_, hb5.out⟩
        have h := ho5.out
        rw [e] at h
        exact h
      · have c2 : decide ((l0.length : Int) + 16 > 3840) = true := decide_eq_true (by have := hlen.out; omega)
        go_wp2_with fail
        go_ret2
        rw [hFk.out]
        show Post w (if s.length < 240 then (bytesS (s ++ [some (n, ino)]), 0) else ([], 5)) _ _
        rw [if_neg hfull]
        exact ⟨_, rfl, Kd.R_nil _ _ _ _ _, hB.out⟩

theorem add_any (A0 : Option Addr) (c0 : Nat) (l0 : List Int) (n : ByteArray) (ino : Int) (w : World) (hn : n.size ≤ maxLen) (hb : Bytes l0) (hr0 : Kd.C (Kd.int .u8) w A0 l0.length l0) (hc0 : l0.length ≤ c0) :
    Calls Try.prog 18 #[.slice A0 l0.length c0, .agg #[.string n, .int .i64 ino]] w (Post w (addA l0 n ino)) := by
  unfold addA
  cases hd : dirO l0 with
  | none => exact add_no A0 c0 l0 n ino w hb hr0 hc0 hd
  | some s =>
    simp only
    unfold addS
    by_cases hl : (La.layA n ino).2 = 0
    · rw [if_pos hl]
      have hl' : La.layA n ino = ((La.layA n ino).1, 0) := Prod.ext rfl hl
      rcases place_cases n s with ⟨h1, h2, h3⟩ | ⟨j, i, hj, h1, h2, h3⟩
      · rw [if_neg (by omega)]
        obtain ⟨k1, k2, k3, k4⟩ := layA_ok hl'
        exact add_fill A0 c0 l0 n ino w hb hr0 hc0 hd hn ⟨k1, k2, k3⟩ h1
      · rw [if_pos (by omega)]
        exact add_there A0 c0 l0 n ino w hb hr0 hc0 hd hn hl' rfl (by omega)
    · rw [if_neg hl]
      exact add_lay A0 c0 l0 n ino w hb hr0 hc0 hd rfl hl
end Go.Proofs.Ytinfjmdcmfpdiaa.Ad

/- entry.Remove: every row of bytes, every name. -/
namespace Go.Proofs.Ytinfjmdcmfpdiaa.Rm
open Go.RowKit Go.Proofs.Ytinfjmdcmfpdiaa.Rt Go.Proofs.Ytinfjmdcmfpdiaa.Md Go.Proofs.Ytinfjmdcmfpdiaa.Al Go.Proofs.Ytinfjmdcmfpdiaa.Pc Go.Proofs.Ytinfjmdcmfpdiaa.Fn Go.Proofs.Ytinfjmdcmfpdiaa.Cp Go.Proofs.Ytinfjmdcmfpdiaa.Ad Go.Proofs.YtinfjmdcmfpdiaaW.PrintWords Go.Proofs.YtinfjmdcmfpdiaaW.PrintLast Go.Proofs.YtinfjmdcmfpdiaaW.PrintMore
set_option linter.unusedVariables false
set_option linter.unusedSimpArgs false

set_option maxHeartbeats 2000000 in
set_option maxRecDepth 100000 in
theorem rm_no (A0 : Option Addr) (c0 : Nat) (l0 : List Int) (n : ByteArray) (w : World) (hb : Bytes l0) (hr0 : Kd.C (Kd.int .u8) w A0 l0.length l0) (hc0 : l0.length ≤ c0) (hd : dirO l0 = none) :
    Calls Try.prog 20 #[.slice A0 l0.length c0, .string n] w (Post w ([], 121)) := by
  have HR := Lib.hid hr0
  have HB := Lib.hid hb
  have HD := Lib.hid hd
  clear hb hr0 hd
  go_enter Try.func20, Try.ntmps20
  go_wp2_with fail
  refine (all_no A0 c0 l0 _ HB.out HR.out hc0 HD.out).mono ?_
  rintro e w1 ⟨v, rfl, -, hb⟩
  have hB := Lib.hid hb
  clear hb
  go_wp2_with fail
  go_ret2
  exact ⟨_, rfl, Kd.R_nil _ _ _ _ _, hB.out⟩

set_option maxHeartbeats 2000000 in
set_option maxRecDepth 100000 in
theorem rm_miss (A0 : Option Addr) (c0 : Nat) (l0 : List Int) (n : ByteArray) (w : World) (hn : n.size ≤ maxLen) (hb : Bytes l0) (hr0 : Kd.C (Kd.int .u8) w A0 l0.length l0) (hc0 : l0.length ≤ c0) {s : List Sl} (hd : dirO l0 = some s) (hp : placeA s n = -1) :
    Calls Try.prog 20 #[.slice A0 l0.length c0, .string n] w (Post w ([], 2)) := by
  have HR := Lib.hid hr0
  have HB := Lib.hid hb
  have HD := Lib.hid hd
  have HP := Lib.hid hp
  clear hb hr0 hd hp
  go_enter Try.func20, Try.ntmps20
  go_wp2_with fail
  refine (all_yes A0 c0 l0 _ HB.out HR.out hc0 HD.out).mono ?_
  rintro e w1 ⟨v, rfl, -, hb⟩
  have hB := Lib.hid hb
  clear hb
  go_wp2_with fail
  refine (place_yes A0 c0 l0 n _ hn HD.out (Kd.C_below HR.out hB.out) hc0 HP.out).mono ?_
  rintro e w2 ⟨rfl, hb⟩
  replace hB := Lib.hid (below_step hB.out hb)
  clear hb
  go_wp2_with fail
  go_ret2
  exact ⟨_, rfl, Kd.R_nil _ _ _ _ _, hB.out⟩

/-- The copy stands. -/
structure RmS (w : World) (g k4 : Nat) (l : List Int) (W : World) : Prop where
  row : Kd.R (Kd.int .u8) 5 W w.heap.size (fun _ => True) (.slice (some ⟨g, 0, none⟩) l.length k4) l
  below : Below w.heap.size w W
theorem RmS.drew {w W : World} {g k4 : Nat} {l : List Int} (h : RmS w g k4 l W) : RmS w g k4 l W.drew := ⟨Kd.R_drew h.row, below_drew1 h.below⟩
theorem RmS.grown {w W W' : World} {g k4 : Nat} {l : List Int} (h : RmS w g k4 l W) (hb : Below w.heap.size w W') (hg : W.grownBy W' none) : RmS w g k4 l W' := ⟨Kd.R_grown h.row hg (fun _ _ => by simp), hb⟩

set_option maxHeartbeats 8000000 in
set_option maxRecDepth 100000 in
theorem rm_hit (A0 : Option Addr) (c0 : Nat) (l0 : List Int) (n : ByteArray) (w : World) (hn : n.size ≤ maxLen) (hb : Bytes l0) (hr0 : Kd.C (Kd.int .u8) w A0 l0.length l0) (hc0 : l0.length ≤ c0) {s : List Sl} (hd : dirO l0 = some s) {j : Nat} (hj : j < s.length) (hp : placeA s n = (j : Int)) :
    Calls Try.prog 20 #[.slice A0 l0.length c0, .string n] w (Post w (bytesS (trim (s.set j none)), 0)) := by
  obtain ⟨hl, hg⟩ := dir_good hd
  have hlen : Hid (l0.length = 16 * s.length) := Lib.hid (by rw [hl]; exact bytesS_len hg.ok)
  have hroom := hg.room
  have hl0 : l0.length ≤ 3840 := by have := hlen.out; omega
  have HG := Lib.hid hg
  have HR := Lib.hid hr0
  have HB := Lib.hid hb
  have HD := Lib.hid hd
  have HP := Lib.hid hp
  have HS := Lib.hid hl
  obtain ⟨o, ho⟩ : ∃ o, o = j * 16 := ⟨_, rfl⟩
  replace ho := Lib.hid ho
  have b1 : decide ((j : Int) < 0) = false := decide_eq_false (by omega)
  clear hb hr0 hd hp hl hg
  go_enter Try.func20, Try.ntmps20
  go_wp2_with fail
  refine (all_yes A0 c0 l0 _ HB.out HR.out hc0 HD.out).mono ?_
  rintro e w1 ⟨v, rfl, -, hb⟩
  have hB := Lib.hid hb
  clear hb
  go_wp2_with fail
  refine (place_yes A0 c0 l0 n _ hn HD.out (Kd.C_below HR.out hB.out) hc0 HP.out).mono ?_
  rintro e w2 ⟨rfl, hb⟩
  replace hB := Lib.hid (below_step hB.out hb)
  clear hb
  go_wp2_with (at_builtin; refine Kd.R_append_row (Value.int .u8) (0 : Int) (w0 := w) w.heap.size rfl (.const (.slice none 0 0)) (.tmp 24) 24 5 (.int .u8 0) 1 rfl Try.underlying24 Rl.info_u8 rfl (by decide) (.slice none 0 0) [] l0 A0 l0.length c0 (fun _ => True) rfl rfl (fun _ _ => trivial) (Kd.R_nil _ _ _ _ _) (Kd.C_below HR.out hB.out) hB.out hB.out.size (by simp; omega) ?_; intro v4 w4 ho4 hb4 hg4 hat4; rw [List.nil_append] at ho4; obtain ⟨g, k4, e4, -⟩ := Kd.R_form ho4 (by have := hlen.out; omega); subst e4; have hS4 := Lib.hid (RmS.mk ho4 hb4); clear ho4 hb4 hg4 hat4 hB)
  have hcap := (Kd.R_reads' hS4.out.row).2.1
  have hS0 := hS4.out.drew
  refine start_ (n := 5) (S := RmS w g k4 l0) (ds := [4]) #[false, false, false, false, false] (by kernel_rfl) rfl rfl hS0 (fun hHeld => ?_)
  refine pure_ (i := 0) (N := some 26) (v := ?_) (a' := ?_) #[true, false, false, false, false] rfl rfl (by kernel_rfl) (fun _ _ _ h => h) (Or.inl ⟨by rfl, ?_⟩) ?_ ?_
  rotate_left
  · intro w'
    go_simp
    with_reducible rfl
  rotate_left
  · simp only [Act.put, List.setIfInBounds_toArray, List.set_cons_zero, List.set_cons_succ, i64_w, i32_w]
    rfl
  refine pure_ (i := 1) (N := some 27) (v := ?_) (a' := ?_) #[true, true, false, false, false] rfl rfl (by kernel_rfl) (fun _ _ _ h => h) (Or.inl ⟨by rfl, ?_⟩) ?_ ?_
  rotate_left
  · intro w'
    go_simp
    with_reducible rfl
  rotate_left
  · simp only [Act.put, List.setIfInBounds_toArray, List.set_cons_zero, List.set_cons_succ, i64_w, i32_w]
    rfl
  refine join_ (σ := Value) 1 #[true, true, true, true, false] (fun v => [(28, .slice (some ⟨g, o, none⟩) 16 (k4 - o)), (29, v)]) (fun v w' => Kd.R (Kd.int .u8) 5 w' w.heap.size (fun _ => True) v (List.replicate 16 0) ∧ RmS w g k4 l0 w') ?_ ?_
  rotate_left
  · intro hCont
    refine two_ (i := 2) (j := 3) (Ni := some 28) (Nj := some 29) #[true, true, true, false, false] #[true, true, false, true, false] rfl rfl rfl rfl (by kernel_rfl) (by decide) (by decide) (fun K hK => ?_) (fun K hK => ?_)
    · skip
      refine goes_ Try.func36 (by kernel_rfl) rfl #[.slice (some ⟨g, 0, none⟩) l0.length k4, .int .i64 (j : Int)] (by rfl) rfl rfl (by (try simp only [List.map_toArray, List.map_cons, List.map_nil]); first | done | rfl) ?_
      with_reducible refine (at_o g l0.length k4 j o (by have := hlen.out; omega) hcap (by omega) ho _).mono ?_
      rintro e w5 ⟨rfl, hw⟩
      refine ⟨_, rfl, ?_⟩
      subst hw
      refine hK.out _ _ hHeld (fun hHeld => ?_)
      clear hK K
      refine norm_ (a' := ?_) ?_ ?_
      rotate_left
      · show Act.put _ (some 28) _ = _
        simp only [Act.put, List.setIfInBounds_toArray, List.set_cons_zero, List.set_cons_succ, i64_w, i32_w]
        rfl
      refine one_ (i := 3) (N := some 29) #[true, true, true, true, false] rfl rfl (by kernel_rfl) (by decide) (fun K hK => ?_)
      refine Kd.R_make_step (Kd.int .u8) (w0 := w) w.heap.size 5 (by rfl) (N := 29) rfl 24 _ _ rfl 16 rfl rfl Try.underlying24 (.int .u8 0) 1 Rl.info_u8 rfl (by decide) (by omega) 0 (ok := fun _ => True) (okp := fun _ => True) rfl (fun _ hk => hk) trivial (by omega) (by omega) hHeld.below hHeld.below.size ?_
      intro z6 w6 ho6 hb6 hg6 hn6
      have hS6 := RmS.grown hHeld hb6 hg6
      replace ho6 := Lib.hid ho6
      clear hg6 hn6 hb6
      refine hK.out _ _ hS6 (fun hHeld => ?_)
      clear hK K hS6
      refine norm_ (a' := ?_) ?_ ?_
      rotate_left
      · show Act.put _ (some 29) _ = _
        simp only [Act.put, List.setIfInBounds_toArray, List.set_cons_zero, List.set_cons_succ, i64_w, i32_w]
        rfl
      exact norm_ (by first | (simp only [putAll, Act.put, List.setIfInBounds_toArray, List.set_cons_zero, List.set_cons_succ]; done) | (simp only [putAll, Act.put, List.setIfInBounds_toArray, List.set_cons_zero, List.set_cons_succ]; rfl)) (hCont z6 _ ⟨ho6.out, hHeld⟩)
    · skip
      refine Kd.R_make_step (Kd.int .u8) (w0 := w) w.heap.size 5 (by rfl) (N := 29) rfl 24 _ _ rfl 16 rfl rfl Try.underlying24 (.int .u8 0) 1 Rl.info_u8 rfl (by decide) (by omega) 0 (ok := fun _ => True) (okp := fun _ => True) rfl (fun _ hk => hk) trivial (by omega) (by omega) hHeld.below hHeld.below.size ?_
      intro z6 w6 ho6 hb6 hg6 hn6
      have hS6 := RmS.grown hHeld hb6 hg6
      replace ho6 := Lib.hid ho6
      clear hg6 hn6 hb6
      refine hK.out _ _ hS6 (fun hHeld => ?_)
      clear hK K hS6
      refine norm_ (a' := ?_) ?_ ?_
      rotate_left
      · show Act.put _ (some 29) _ = _
        simp only [Act.put, List.setIfInBounds_toArray, List.set_cons_zero, List.set_cons_succ, i64_w, i32_w]
        rfl
      refine one_ (i := 2) (N := some 28) #[true, true, true, true, false] rfl rfl (by kernel_rfl) (by decide) (fun K hK => ?_)
      refine goes_ Try.func36 (by kernel_rfl) rfl #[.slice (some ⟨g, 0, none⟩) l0.length k4, .int .i64 (j : Int)] (by rfl) rfl rfl (by (try simp only [List.map_toArray, List.map_cons, List.map_nil]); first | done | rfl) ?_
      with_reducible refine (at_o g l0.length k4 j o (by have := hlen.out; omega) hcap (by omega) ho _).mono ?_
      rintro e w5 ⟨rfl, hw⟩
      refine ⟨_, rfl, ?_⟩
      subst hw
      refine hK.out _ _ hHeld (fun hHeld => ?_)
      clear hK K
      refine norm_ (a' := ?_) ?_ ?_
      rotate_left
      · show Act.put _ (some 28) _ = _
        simp only [Act.put, List.setIfInBounds_toArray, List.set_cons_zero, List.set_cons_succ, i64_w, i32_w]
        rfl
      exact norm_ (by first | (simp only [putAll, Act.put, List.setIfInBounds_toArray, List.set_cons_zero, List.set_cons_succ]; done) | (simp only [putAll, Act.put, List.setIfInBounds_toArray, List.set_cons_zero, List.set_cons_succ]; rfl)) (hCont z6 _ ⟨ho6.out, hHeld⟩)
  rintro z7 w7 ⟨hz, hHeld⟩
  obtain ⟨gz, cz, ez, hgz, -, -⟩ := Kd.R_form hz (by simp)
  rw [List.length_replicate] at ez
  subst ez
  refine norm_ (a' := ?_) ?_ ?_
  rotate_left
  · simp only [putAll, Act.put, List.setIfInBounds_toArray, List.set_cons_zero, List.set_cons_succ]
    rfl
  refine last_ (i := 4) (N := some 30) #[true, true, true, true, true] rfl rfl (by kernel_rfl) (by decide) (fun K hK => ?_)
  obtain ⟨w8, hcp, ho8, hb8, -⟩ := copy_into (T := 24) (dcap := k4 - o) (scap := cz) rfl hHeld.row hHeld.below (C_lenx' rfl (Kd.R_reads' hz).2.2) (o := o) (by have := hlen.out; have := ho.out; rw [List.length_replicate]; omega)
  replace hcp := hcp 16 16 (List.length_replicate ..) (List.length_replicate ..)
  replace ho8 := Lib.hid ho8
  replace hb8 := Lib.hid hb8
  refine value_ (w1 := ?_) (v := ?_) (by rfl) rfl ?_ ?_
  rotate_left 2
  · go_simp
    constructor
    · rfl
    · rfl
  clear hcp hz
  refine hK.out _ _ ?_
  clear hK K
  refine norm_ (a' := ?_) ?_ ?_
  rotate_left
  · show Act.put _ (some 30) _ = _
    simp only [Act.put, List.setIfInBounds_toArray, List.set_cons_zero, List.set_cons_succ, i64_w, i32_w]
    rfl
  refine done_ (by kernel_rfl) ?_
  clear hHeld hS0 hS4
  obtain ⟨t, ht⟩ : ∃ t, t = s.set j none := ⟨_, rfl⟩
  have htl : Hid (t.length = s.length) := Lib.hid (by rw [ht]; simp)
  have htok : Hid (AllOk t) := Lib.hid (by rw [ht]; exact HG.out.ok.set j (fun e he => by cases he))
  have hO8 : Hid (Kd.R (Kd.int .u8) 5 w8 w.heap.size (fun _ => True) (.slice (some ⟨g, 0, none⟩) (16 * s.length) k4) (bytesS (t.take s.length))) := Lib.hid (by
    have h := ho8.out
    have e : l0.take o ++ List.replicate 16 0 ++ l0.drop (o + (List.replicate 16 (0 : Int)).length) = bytesS t := by
      rw [ht, ← bytesS_set HG.out.ok hj (o := none) rfl, HS.out, ho.out, Nat.mul_comm j 16]; rfl
    rw [e, hlen.out] at h
    rw [List.take_of_length_le (by rw [htl.out]; omega)]
    exact h)
  rw [← ht]
  replace ht := Lib.hid ht
  have hT : Hid (trimGo t s.length = trim t) := Lib.hid (by unfold trim; rw [htl.out])
  clear ho8 hgz
  go_wp2_with fail
  go_loopw [9, 10] (fun v i wr => ∃ k : Nat, v = .slice (some ⟨g, 0, none⟩) (16 * k) k4 ∧ i = .int .i64 k ∧ k ≤ s.length ∧ Hid (trimGo t k = trim t) ∧ Hid (Kd.R (Kd.int .u8) 5 wr w.heap.size (fun _ => True) (.slice (some ⟨g, 0, none⟩) (16 * k) k4) (bytesS (t.take k))) ∧ Hid (Below w.heap.size w wr)) (fun _ i _ => (intOf i).toNat)
  case atStart => exact ⟨s.length, by rw [← hlen.out], by congr 1; have := hlen.out; omega, Nat.le_refl _, hT, hO8, hb8⟩
  case round =>
    obtain ⟨k, rfl, rfl, hk, hT, hO, hB⟩ := hrel
    cases k with
    | zero =>
      have c1 : decide (((0 : Nat) : Int) > 0) = false := by decide
      have hE : Hid (trim t = []) := Lib.hid hT.out.symm
      clear hT
      go_wp2_with fail
      go_ret2
      rw [← ht.out, hE.out]
      exact ⟨_, rfl, by have h := hO.out; rw [List.take_zero] at h; exact h, hB.out⟩
    | succ m =>
      have c1 : decide (((m + 1 : Nat) : Int) > 0) = true := decide_eq_true (by omega)
      have hmt : m < t.length := by have := htl.out; omega
      obtain ⟨o2, ho2⟩ : ∃ o2, o2 = m * 16 := ⟨_, rfl⟩
      replace ho2 := Lib.hid ho2
      have hcm := (Kd.R_reads' hO.out).2.1
      have hbl : Hid ((bytesS (t.take (m + 1))).length = 16 * (m + 1)) := Lib.hid (by rw [bytesS_len (htok.out.take _), List.length_take]; omega)
      have htk : (t.take (m + 1))[m]'(by rw [List.length_take]; omega) = t[m] := List.getElem_take
      have hC := R_ent (k := m) (o := o2) (by rw [hbl.out]; exact hO.out) rfl (htok.out.take _) (by rw [List.length_take]; omega) ho2.out
      rw [htk] at hC
      replace hC := Lib.hid hC
      have hok : Hid (∀ e, t[m] = some e → okE e) := Lib.hid (fun e he => htok.out e (by rw [← he]; exact List.getElem_mem hmt))
      clear htk
      cases hsk : t[m] with
      | none =>
        have hN : Hid (t[m].isNone = true) := Lib.hid (by rw [hsk]; rfl)
        have hT2 : Hid (trimGo t m = trim t) := Lib.hid (by rw [← hT.out]; simp only [trimGo]; rw [if_pos (by rw [List.getElem?_eq_getElem hmt, hsk])])
        clear hsk hT
        go_wp2_with fail
        refine (at_o g (16 * (m + 1)) k4 m o2 (by omega) hcm (by omega) ho2 _).mono ?_
        rintro e w9 ⟨rfl, hw⟩
        subst hw
        go_wp2_with fail
        refine (free_slot hC.out hok.out (by have := ho2.out; omega) hN.out).mono ?_
        rintro e w10 ⟨rfl, hb⟩
        replace hO := Lib.hid (Kd.R_below hO.out hb)
        replace hB := Lib.hid (below_step hB.out hb)
        clear hb hC
        go_wp2_with fail
        refine ⟨⟨m, by rw [Nat.mul_comm], rfl, by omega, hT2, Lib.hid ?_, hB⟩, by simp [intOf]⟩
        have h := Kd.R_take (m := 16 * m) hO.out (by rw [hbl.out]; omega)
        rw [bytesS_take (htok.out.take _) (by rw [List.length_take]; omega), List.take_take, Nat.min_eq_left (by omega)] at h
        exact h
      | some e =>
        have hN : Hid (t[m].isNone = false) := Lib.hid (by rw [hsk]; rfl)
        have hT2 : Hid (trim t = t.take (m + 1)) := Lib.hid (by rw [← hT.out]; simp only [trimGo]; rw [if_neg (by rw [List.getElem?_eq_getElem hmt, hsk]; simp)])
        clear hsk hT
        go_wp2_with fail
        refine (at_o g (16 * (m + 1)) k4 m o2 (by omega) hcm (by omega) ho2 _).mono ?_
        rintro e w9 ⟨rfl, hw⟩
        subst hw
        go_wp2_with fail
        refine (free_slot hC.out hok.out (by have := ho2.out; omega) hN.out).mono ?_
        rintro e w10 ⟨rfl, hb⟩
        replace hO := Lib.hid (Kd.R_below hO.out hb)
        replace hB := Lib.hid (below_step hB.out hb)
        clear hb hC
        go_wp2_with fail
        go_ret2
        rw [← ht.out, hT2.out]
        exact ⟨_, rfl, hO.out, hB.out⟩

theorem remove_any (A0 : Option Addr) (c0 : Nat) (l0 : List Int) (n : ByteArray) (w : World) (hn : n.size ≤ maxLen) (hb : Bytes l0) (hr0 : Kd.C (Kd.int .u8) w A0 l0.length l0) (hc0 : l0.length ≤ c0) :
    Calls Try.prog 20 #[.slice A0 l0.length c0, .string n] w (Post w (removeA l0 n)) := by
  unfold removeA
  cases hd : dirO l0 with
  | none => exact rm_no A0 c0 l0 n w hb hr0 hc0 hd
  | some s =>
    simp only
    unfold removeS
    rcases place_cases n s with ⟨h1, h2, h3⟩ | ⟨j, i, hj, h1, h2, h3⟩
    · rw [if_neg (by omega)]; exact rm_miss A0 c0 l0 n w hn hb hr0 hc0 hd h1
    · rw [if_pos (by omega), h1, Int.toNat_natCast]; exact rm_hit A0 c0 l0 n w hn hb hr0 hc0 hd hj h1
end Go.Proofs.Ytinfjmdcmfpdiaa.Rm
