/- The statement SpinTells' walk: two texts that differ in one byte have unlike whirls. No condition. -/
import Derived.Test.YthdaphnaehdnfaaSpLaw
import Derived.Lib.ConvBytes
import Derived.OpenShut
namespace Go.Proofs.Ythdaphnaehdnfaa
open Go.RowKit Go.ChangeShapes Go.Proofs.Ythdaphnaehdnfaa.P Go.Proofs.Ythdaphnaehdnfaa.Sp Go.Proofs.Ythdaphnaehdnfaa.PureSpin

theorem stepM_inj {z z' : Int × Int} (c : UInt8) (hz : (0 ≤ z.1 ∧ z.1 < 257) ∧ 0 ≤ z.2 ∧ z.2 < 257) (hz' : (0 ≤ z'.1 ∧ z'.1 < 257) ∧ 0 ≤ z'.2 ∧ z'.2 < 257) (h : stepM z c = stepM z' c) : z = z' := by
  obtain ⟨x, y⟩ := z
  obtain ⟨x', y'⟩ := z'
  simp only [stepM, Prod.mk.injEq] at h hz hz' ⊢
  omega
theorem stepM_byte {z : Int × Int} {c d : UInt8} (h : stepM z c = stepM z d) : c = d := by
  simp only [stepM, Prod.mk.injEq] at h
  have h1 := c.toNat_lt
  have h2 := d.toNat_lt
  exact UInt8.toNat_inj.1 (by omega)
theorem foldM_inj (l : List UInt8) : ∀ {z z' : Int × Int}, (0 ≤ z.1 ∧ z.1 < 257) ∧ 0 ≤ z.2 ∧ z.2 < 257 → (0 ≤ z'.1 ∧ z'.1 < 257) ∧ 0 ≤ z'.2 ∧ z'.2 < 257 → l.foldl stepM z = l.foldl stepM z' → z = z' := by
  induction l with
  | nil => exact fun _ _ h => h
  | cons c l ih =>
    intro z z' hz hz' h
    exact stepM_inj c hz hz' (ih (stepM_range z c) (stepM_range z' c) h)
theorem moreL_set (l : List UInt8) (k : Nat) (hk : k < l.length) (c : UInt8) : moreL 1 0 (l.set k c) = moreL 1 0 l ↔ l[k] = c := by
  constructor
  · intro h
    have e1 : l.set k c = l.take k ++ c :: l.drop (k + 1) := by rw [List.set_eq_take_append_cons_drop, if_pos hk]
    have e2 : l = l.take k ++ l[k] :: l.drop (k + 1) := by rw [← List.drop_eq_getElem_cons hk, List.take_append_drop]
    rw [e1] at h
    conv at h => rhs; rw [e2]
    unfold moreL at h
    simp only [List.foldl_append, List.foldl_cons] at h
    exact (stepM_byte (foldM_inj _ (stepM_range _ _) (stepM_range _ _) h)).symm
  · intro h
    rw [← h, List.set_getElem_self]

/-- The bytes as whole numbers. -/
def octs (l : List UInt8) : List Int := l.map fun b => (b.toNat : Int)
theorem octs_getD (l : List UInt8) (i : Nat) (h : i < l.length) : (octs l).getD i 0 = (l[i].toNat : Int) := by
  simp [octs, List.getD_eq_getElem?_getD, h]
theorem str_octs (l : List UInt8) : strOfNums (octs l) = ⟨l.toArray⟩ := by
  unfold strOfNums octs
  congr 1
  rw [List.map_map]
  congr 1
  conv => rhs; rw [← List.map_id l]
  refine List.map_congr_left fun b _ => ?_
  simp

theorem bytesWorld_below (w : World) (e : TypeId) (s : ByteArray) : Below w.heap.size w (Lib.bytesWorld w e s) := by
  refine ⟨?_, ?_, ?_, ?_, ?_⟩
  · rfl
  · rfl
  · rfl
  · rw [Lib.bytesWorld_size]; omega
  · intro i hi; exact Lib.bytesWorld_at_old w e s i hi
theorem bytesWorld_frozen (w : World) (e : TypeId) (s : ByteArray) (j : Nat) (hj : j < s.size) : (Lib.bytesWorld w e s).frozen? ⟨w.heap.size, j, none⟩ = false := by
  have h := Lib.bytesWorld_at_new w e s
  have hs : j < (Lib.bytesCells w e s).size := by
    unfold Lib.bytesCells
    have : s.data.size = s.size := rfl
    simp; omega
  simp [World.frozen?, h]
  omega

set_option maxHeartbeats 1000000 in
theorem tells_empty (s a : ByteArray) (u c : Int) (w : World) (ha : moatlaw02_few.f s = some a) (h0 : a.size = 0) :
    Calls Try.prog 5 #[.string s, .int .u64 u, .int .u8 c] w fun e w' => e = .returned (.bool true) ∧ Below w.heap.size w w' := by
  have HA := Lib.hid ha
  have hz : (((a.size : Nat) : Int) == 0) = true := by rw [h0]; rfl
  have H0 := Lib.hid h0
  clear ha h0
  go_enter Try.func5, Try.ntmps5
  go_wp2_with fail
  refine (moatlaw02_shown.calls true _ shown_eq).mono ?_
  rintro e w1 ⟨rfl, hb1⟩
  go_wp2_with fail
  refine (moatlaw02_few.calls s a _ HA.out).mono ?_
  rintro e w2 ⟨rfl, hb2⟩
  have hcv := Lib.run_convert_string_bytes (P := Try.prog) w2 9 31 5 a Try.underlying9 Try.underlying31 Try.underlying5
  go_wp2
  go_ret
  have h1 := hb1.size
  exact ⟨rfl, hb1.trans ((hb2.mono (by omega)).trans ((bytesWorld_below _ _ _).mono (by have := hb2.size; omega)))⟩

theorem byte_of {c : Int} (hc : 0 ≤ c ∧ c < 256) : ∃ v : UInt8, c = (v.toNat : Int) := by
  refine ⟨UInt8.ofNat c.toNat, ?_⟩
  have : (UInt8.ofNat c.toNat).toNat = c.toNat % 256 := by simp
  omega

theorem tells1 {q1 q2 p1 p2 : Int} {b : Bool} (h : ((q1 == p1 && q2 == p2) == b) = true) (h1 : q1 = p1) (h2 : q2 = p2) : b = true := by
  subst h1; subst h2; simpa using h
theorem tells2 {q1 q2 p1 p2 : Int} {b : Bool} (h : ((q1 == p1 && q2 == p2) == b) = true) (h2 : ¬ q2 = p2) : (!b) = true := by
  rw [beq_eq_false_iff_ne.2 h2, Bool.and_false] at h; simpa using h
theorem tells3 {q1 q2 p1 p2 : Int} {b : Bool} (h : ((q1 == p1 && q2 == p2) == b) = true) (h2 : ¬ q1 = p1) : (!b) = true := by
  rw [beq_eq_false_iff_ne.2 h2, Bool.false_and] at h; simpa using h

set_option maxHeartbeats 1000000 in
theorem tells_some (s a : ByteArray) (u c : Int) (hu : 0 ≤ u ∧ u < 18446744073709551616) (hc : 0 ≤ c ∧ c < 256) (w : World) (ha : moatlaw02_few.f s = some a) (h0 : 0 < a.size) (h2 : a.size ≤ 20000) :
    Calls Try.prog 5 #[.string s, .int .u64 u, .int .u8 c] w fun e w' => e = .returned (.bool true) ∧ Below w.heap.size w w' := by
  obtain ⟨v, rfl⟩ : ∃ v : UInt8, c = (v.toNat : Int) := byte_of hc
  have hku0 := Int.emod_nonneg u (show (a.size : Int) ≠ 0 by omega)
  have hku1 := Int.emod_lt_of_pos u (show (0 : Int) < a.size by omega)
  obtain ⟨k, hk, hku⟩ : ∃ k : Nat, k < a.size ∧ u % (a.size : Int) = (k : Int) := ⟨(u % (a.size : Int)).toNat, by omega, by omega⟩
  clear hku0 hku1
  have hl : k < a.data.toList.length := by simpa using hk
  have hk' : k < a.data.size := hk
  have hset := moreL_set a.data.toList k hl v
  have hoa := of_eq a h2
  have hob := of_eq ⟨(a.data.toList.set k v).toArray⟩ (by show (a.data.toList.set k v).toArray.size ≤ 20000; simpa using h2)
  dsimp only at hob
  rw [List.toList_toArray] at hob
  generalize moreL 1 0 (a.data.toList.set k v) = q at hob hset
  generalize moreL 1 0 a.data.toList = p at hoa hset
  obtain ⟨q1, q2⟩ := q
  obtain ⟨p1, p2⟩ := p
  have hfin : ((q1 == p1 && q2 == p2) == ((a.data[k].toNat : Int) == (v.toNat : Int))) = true := by
    rw [show a.data[k] = a.data.toList[k] by simp]
    rw [beq_iff_eq, Bool.eq_iff_iff]
    simp only [Bool.and_eq_true, beq_iff_eq]
    rw [show q1 = p1 ∧ q2 = p2 ↔ ((q1, q2) : Int × Int) = (p1, p2) by simp, hset]
    constructor
    · rintro h; rw [h]
    · intro h; exact UInt8.toNat_inj.1 (by omega)
  have HF := Lib.hid hfin
  have HA := Lib.hid ha
  have HOA := Lib.hid hoa
  have HOB := Lib.hid hob
  have HK := Lib.hid hku
  have hz : (((a.size : Nat) : Int) == 0) = false := beq_eq_false_iff_ne.2 (by omega)
  clear ha hoa hob hfin hset
  go_enter Try.func5, Try.ntmps5
  go_wp2_with fail
  refine (moatlaw02_shown.calls true _ shown_eq).mono ?_
  rintro e w1 ⟨rfl, hb1⟩
  go_wp2_with fail
  refine (moatlaw02_few.calls s a _ HA.out).mono ?_
  rintro e w2 ⟨rfl, hb2⟩
  have hcv := Lib.run_convert_string_bytes (P := Try.prog) w2 9 31 5 a Try.underlying9 Try.underlying31 Try.underlying5
  have hcell : (Lib.bytesWorld w2 5 a).cell? ⟨w2.heap.size, k, none⟩ = some (.int .u8 (a.data[k].toNat : Int)) := by
    rw [Lib.bytesWorld_cell _ _ _ _ hk, List.getD_eq_getElem?_getD, List.getElem?_eq_getElem hl]; simp
  have hfz := bytesWorld_frozen w2 5 a k hk
  have hcv2 := run_convert_bytes_arg (P := Try.prog) ((Lib.bytesWorld w2 5 a).setCell ⟨w2.heap.size, k, none⟩ (.int .u8 (v.toNat : Int))) 31 5 Try.underlying31 Try.underlying5 w2.heap.size 0 a.size (grownCap w2 a.size 0 5) (octs (a.data.toList.set k v)) (by simp [octs]) (fun i hi => by
      rw [Nat.zero_add]
      by_cases hik : i = k
      · subst hik
        rw [octs_getD _ _ (by simpa using hl)]
        simp only [List.getElem_set_self]
        exact World.cell?_setCell_same _ _ _ hcell
      · rw [octs_getD _ _ (by simpa using hi), List.getElem_set_ne (Ne.symm hik)]
        have hne : (⟨w2.heap.size, k, none⟩ : Addr) ≠ ⟨w2.heap.size, i, none⟩ := by intro h; injection h with _ h _; exact hik h.symm
        rw [World.cell?_setCell_other _ _ _ _ hne]
        have hi' : i < a.data.toList.length := by simpa using hi
        rw [Lib.bytesWorld_cell _ _ _ _ hi, List.getD_eq_getElem?_getD, List.getElem?_eq_getElem hi']; rfl) 9 Try.underlying9
  rw [str_octs] at hcv2
  go_wp2_with fail
  refine (spin_Of.calls _ _ _ _ HOB.out).mono ?_
  rintro e w4 ⟨rfl, hb4⟩
  go_wp2_with fail
  refine (moatlaw02_few.calls s a _ HA.out).mono ?_
  rintro e w5 ⟨rfl, hb5⟩
  go_wp2_with fail
  refine (spin_Of.calls _ _ _ _ HOA.out).mono ?_
  rintro e w6 ⟨rfl, hb6⟩
  have h1 := hb1.size
  have h2 := hb2.size
  have h4 := hb4.size
  have h5 := hb5.size
  simp only [World.size_setCell, Lib.bytesWorld_size] at h4
  have hB : Below w.heap.size w w6 := hb1.trans ((hb2.mono (by omega)).trans ((((bytesWorld_below _ _ _).mono (by omega)).setCell (by simp; omega) _).trans ((hb4.mono (by simp [Lib.bytesWorld_size]; omega)).trans ((hb5.mono (by omega)).trans (hb6.mono (by omega))))))
  go_wp2
  · go_ret
    exact ⟨congrArg (fun b => Ending.returned (.bool b)) (tells1 HF.out (by assumption) (by assumption)), hB⟩
  · go_ret
    exact ⟨congrArg (fun b => Ending.returned (.bool b)) (tells2 HF.out (by assumption)), hB⟩
  · go_ret
    exact ⟨congrArg (fun b => Ending.returned (.bool b)) (tells3 HF.out (by assumption)), hB⟩

theorem SpinTells_walk (s : ByteArray) (_hs : s.size ≤ 140737488351232) (u : Int) (hu : (Lit.int .u64 u).wf = true) (c : Int) (hc : (Lit.int .u8 c).wf = true) (w : World) :
    Calls Try.prog 5 #[.string s, .int .u64 u, .int .u8 c] w fun e w' => e = .returned (.bool true) ∧ Below w.heap.size w w' := by
  obtain ⟨a, ha, has⟩ := few_eq s
  rcases Nat.eq_zero_or_pos a.size with h | h
  · exact tells_empty s a u c w ha h
  · exact tells_some s a u c (by have := bounds_u64 hu; omega) (by have := bounds_u8 hc; omega) w ha h has

end Go.Proofs.Ythdaphnaehdnfaa
