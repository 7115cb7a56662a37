/- strings.ContainsAny of the two bytes 0 and '/', and entry.Right: every text. -/
import Derived.Test.YtljddpnnfdaplaaRtA
import Derived.Lib.OthersKept
namespace Go.Proofs.Ytljddpnnfdaplaa.Rt
open Go.RowKit Go.Lib

/-- A rune's bytes past its first one are no ASCII, either. -/
theorem get_at' (s : ByteArray) (i : Nat) (h : i < s.size) : s.get! i = s[i]'h := by
  simp [ByteArray.get!, getElem!_pos, h]
  rfl
theorem cont_high (s : ByteArray) (i k : Nat) (h : (decide (i + k < s.size) && ((s.get! (i + k)).toNat / 64 == 2)) = true) : i + k < s.size ∧ ∀ b, s.data.toList[i + k]? = some b → 128 ≤ b.toNat := by
  simp only [Bool.and_eq_true, decide_eq_true_eq, beq_iff_eq] at h
  obtain ⟨h1, h2⟩ := h
  refine ⟨h1, fun b hb => ?_⟩
  rw [get_at' s (i + k) h1] at h2
  have : s.data.toList[i + k]? = some (s[i + k]'h1) := Lib.data_getElem? s (i + k) h1
  rw [this] at hb
  injection hb with hb
  subst hb
  omega

/-- The bytes that a rune takes. -/
def HighTo (s : ByteArray) (i n : Nat) : Prop := i + n ≤ s.size ∧ ∀ j, i ≤ j → j < i + n → ∀ b, s.data.toList[j]? = some b → 128 ≤ b.toNat
theorem HighTo.one {s : ByteArray} {i : Nat} (h : i < s.size) (h0 : 128 ≤ (s[i]'h).toNat) : HighTo s i 1 := by
  refine ⟨by omega, fun j h1 h2 b hb => ?_⟩
  obtain rfl : j = i := by omega
  have : s.data.toList[j]? = some (s[j]'h) := Lib.data_getElem? s j h
  rw [this] at hb
  injection hb with hb
  subst hb
  exact h0
theorem HighTo.succ {s : ByteArray} {i n : Nat} (h : HighTo s i n) (hc : (decide (i + n < s.size) && ((s.get! (i + n)).toNat / 64 == 2)) = true) : HighTo s i (n + 1) := by
  obtain ⟨h1, h2⟩ := cont_high s i n hc
  refine ⟨by omega, fun j h3 h4 b hb => ?_⟩
  by_cases e : j = i + n
  · subst e; exact h2 b hb
  · exact h.2 j h3 (by omega) b hb

theorem decode_bytes (s : ByteArray) (i : Nat) (h : i < s.size) (h0 : 128 ≤ (s[i]'h).toNat) : HighTo s i (Utf8.decode s i).2 := by
  have H1 := HighTo.one h h0
  have hn : ¬ (s.get! (i + 0)).toNat < 128 := by rw [Nat.add_zero, get_at' s i h]; omega
  unfold Utf8.decode
  simp only [hn, if_false]
  split
  · rename_i c
    simp only [Bool.and_eq_true] at c
    have H2 := H1.succ (by simpa using c.2)
    split
    · exact H2
    · exact H1
  · split
    · rename_i c
      simp only [Bool.and_eq_true] at c
      have H2 := H1.succ (by simpa using c.1.2)
      have H3 := H2.succ (by simpa using c.2)
      split
      · exact H3
      · exact H1
    · split
      · rename_i c
        simp only [Bool.and_eq_true] at c
        have H2 := H1.succ (by simpa using c.1.1.2)
        have H3 := H2.succ (by simpa using c.1.2)
        have H4 := H3.succ (by simpa using c.2)
        split
        · exact H4
        · exact H1
      · exact H1

theorem noAny_high {s : ByteArray} {i n : Nat} (h : NoAny s.data.toList [0, 47] i) (hh : HighTo s i n) : NoAny s.data.toList [0, 47] (i + n) := by
  intro j b hj hb
  by_cases e : j < i
  · exact h j b e hb
  · have := hh.2 j (by omega) hj b hb
    have h1 : b ≠ 0 := by rintro rfl; simp at this
    have h2 : b ≠ 47 := by rintro rfl; simp at this
    simp [h1, h2]

theorem iterAt_below {w W : World} {k : Nat} {s : ByteArray} {p : Nat} (h : Below w.heap.size w W) (hk : w.heap.size ≤ k) : Below w.heap.size w (W.iterAt k s p) := by
  refine ⟨h.os, h.tape, h.output, by simpa [World.iterAt] using h.size, fun i hi => ?_⟩
  have hne : k ≠ i := by omega
  show (W.heap.setIfInBounds k (.stringIter s p))[i]? = w.heap[i]?
  rw [Array.getElem?_setIfInBounds_ne hne]
  exact h.block i hi

theorem calls_hit (c : UInt8) (hc : c.toNat < 128) (w : World) : Calls Try.prog 31 #[.string ⟨#[0, 47]⟩, .int .i32 (c.toNat : Int)] w fun e w' => e = .returned (.int .i64 (Lib.indexByte [0, 47] c)) ∧ Below w.heap.size w w' :=
  (Try.strings_IndexRune_ascii ⟨#[0, 47]⟩ (c.toNat : Int) w (by omega) (by omega)).mono fun e w' ⟨he, hw⟩ => ⟨by rw [he]; simp, below_of_same hw⟩

set_option maxHeartbeats 4000000 in
set_option maxRecDepth 1000000 in
/-- s of at most 8 bytes, whichever they are. -/
theorem indexAny_short (s : ByteArray) (h8 : s.size ≤ 8) (w : World) :
    Calls Try.prog 29 #[.string s, .string ⟨#[0, 47]⟩] w fun e w' => e = .returned (.int .i64 (Lib.indexAny s.data.toList [0, 47])) ∧ Below w.heap.size w w' := by
  have h8z : decide ((8 : Int) < (s.size : Int)) = false := decide_eq_false (by omega)
  go_enter Try.func29, Try.ntmps29
  go_wp2_with (go_at_call 32; refine (Try.strings_shouldUseASCIISet _ _).mono ?_; rintro e w' ⟨rfl, hw⟩; rw [hw, h8z])
  go_loopg [9, 10] s.size (fun g _ _ wx => ∃ i : Nat, i + g = s.size ∧ wx.heap[w.heap.size]? = some (.stringIter s i) ∧ Hid (Below w.heap.size w wx) ∧ Hid (NoAny s.data.toList [0, 47] i))
  case atStart => exact ⟨0, by omega, World.iter_heap w s 0, Lib.hid (iter_below w s 0), Lib.hid (NoAny.zero _ _)⟩
  case round =>
    obtain ⟨i, hig, hit, HB, HN⟩ := hrel
    cases gk with
    | zero =>
      obtain rfl : i = s.size := by omega
      have hnx := fun ty => run_next_end_at (P := Try.prog) wr w.heap.size s s.size ty hit (by omega)
      clear hit
      go_wp2
      go_ret
      exact ⟨by rw [Lib.indexAny_none (by rw [← Lib.size_eq]; exact HN.out)]; rfl, HB.out⟩
    | succ g =>
      have hi : i < s.size := by omega
      have hxl : s.data.toList[i]? = some (s[i]'hi) := Lib.data_getElem? s i hi
      by_cases hx128 : (s[i]'hi).toNat < 128
      · have hnx := fun ty => run_next_ascii_at (P := Try.prog) wr w.heap.size s i ty hit hi hx128
        have hit2 := iterAt_heap wr w.heap.size s i (i + 1) hit
        have HB2 : Hid (Below w.heap.size w (wr.iterAt w.heap.size s (i + 1))) := Lib.hid (iterAt_below HB.out (Nat.le_refl _))
        have hsz2 := (Array.getElem?_eq_some_iff.1 hit2).1
        have Hit2 := Lib.hid hit2
        have hsz := HB2.out.size
        generalize (s[i]'hi) = x at hxl hx128 hnx
        have Hx := Lib.hid hxl
        have hcon := Lib.contains_iff_indexByte [0, 47] x
        clear hit hit2 hxl
        cases hin : ([0, 47] : List UInt8).contains x
        · rw [hin] at hcon
          have hlt : ¬ ((0 : Int) ≤ Lib.indexByte [0, 47] x) := of_decide_eq_false hcon.symm
          have Hin := Lib.hid hin
          clear hcon hin
          go_wp2_with (go_at_call 31; refine (calls_hit x hx128 _).mono ?_; rintro e w' ⟨rfl, hb⟩)
          go_roundg g
          case measure => omega
          case rel => exact ⟨i + 1, by omega, (hb.block _ (by omega)).trans Hit2.out, Lib.hid (HB2.out.trans (hb.mono hsz)), Lib.hid (HN.out.succ Hx.out Hin.out)⟩
        · rw [hin] at hcon
          have hge : (0 : Int) ≤ Lib.indexByte [0, 47] x := of_decide_eq_true hcon.symm
          have Hin := Lib.hid hin
          clear hcon hin
          go_wp2_with (go_at_call 31; refine (calls_hit x hx128 _).mono ?_; rintro e w' ⟨rfl, hb⟩)
          go_ret
          exact ⟨by rw [Lib.indexAny_hit HN.out Hx.out Hin.out]; rfl, HB2.out.trans (hb.mono hsz)⟩
      · have hnx := fun ty => run_next_any_at (P := Try.prog) wr w.heap.size s i ty hit hi
        have hd := decode_high s i hi (by omega)
        have hdb := decode_bytes s i hi (by omega)
        generalize Utf8.decode s i = d at hnx hd hdb
        obtain ⟨c, n⟩ := d
        dsimp only at hnx hd hdb
        have hit2 := iterAt_heap wr w.heap.size s i (i + n) hit
        have HB2 : Hid (Below w.heap.size w (wr.iterAt w.heap.size s (i + n))) := Lib.hid (iterAt_below HB.out (Nat.le_refl _))
        have hsz2 := (Array.getElem?_eq_some_iff.1 hit2).1
        have Hit2 := Lib.hid hit2
        have HDB := Lib.hid hdb
        have hsz := HB2.out.size
        obtain ⟨hd1, hd2⟩ := hd
        have hle := hdb.1
        have hneg : ¬ ((0 : Int) ≤ -1) := by decide
        clear hit hit2 hdb hxl hx128
        go_wp2_with (go_at_call 31; refine (idx_high _ (by omega) _).mono ?_; rintro e w' ⟨rfl, hb⟩)
        go_roundg (s.size - (i + n))
        case measure => omega
        case rel => exact ⟨i + n, by omega, (hb.block _ (by omega)).trans Hit2.out, Lib.hid (HB2.out.trans (hb.mono hsz)), Lib.hid (noAny_high HN.out HDB.out)⟩

theorem zero256 : (Try.prog.info? 56).map (fun i => (i.zero, i.size)) = some (some (.agg (Array.replicate 256 (.bool false))), 256) := by kernel_rfl

theorem indexAny_any (s : ByteArray) (hs : s.size < 4294967281) (w : World) :
    Calls Try.prog 29 #[.string s, .string ⟨#[0, 47]⟩] w fun e w' => e = .returned (.int .i64 (Lib.indexAny s.data.toList [0, 47])) ∧ Below w.heap.size w w' := by
  by_cases h8 : s.size ≤ 8
  · exact indexAny_short s h8 w
  · refine (Try.strings_IndexAny_long (zero_of_info zero256).1 s ⟨#[0, 47]⟩ w (by show 2 ≤ 2; omega) (by omega) hs (by show 2 < 4294967281; omega) ?_).mono fun e w' h => ⟨h.1, ?_⟩
    · intro j b hb
      have : b = 0 ∨ b = 47 := by
        have := List.mem_of_getElem? hb
        simpa using this
      rcases this with rfl | rfl <;> decide
    · rw [h.2]; exact ((Below.refl _ _).alloc (Nat.le_refl _) _).alloc (by simp) _

/-- Are 0 or '/' among the bytes? -/
theorem indexAny_ge (l : List UInt8) : (0 ≤ Lib.indexAny l [0, 47]) ↔ (0 ∈ l ∨ 47 ∈ l) := by
  induction l with
  | nil => simp [Lib.indexAny]
  | cons b l ih =>
    unfold Lib.indexAny
    by_cases hb : ([0, 47] : List UInt8).contains b = true
    · rw [if_pos hb]
      have : b = 0 ∨ b = 47 := by simpa using hb
      rcases this with rfl | rfl <;> simp
    · rw [if_neg hb]
      have h1 : ¬ (b = 0 ∨ b = 47) := by simpa using hb
      have h2 : (0 : UInt8) ≠ b := fun h => h1 (.inl h.symm)
      have h3 : (47 : UInt8) ≠ b := fun h => h1 (.inr h.symm)
      simp only [List.mem_cons, h2, h3, false_or]
      rw [← ih]
      have hge := Lib.indexAny_ge [0, 47] l
      by_cases h4 : Lib.indexAny l [0, 47] = -1
      · rw [if_pos (by rw [h4]; rfl), h4]
      · rw [if_neg (by simpa using h4)]; omega

set_option maxHeartbeats 1000000 in
theorem containsAny_any (s : ByteArray) (hs : s.size < 4294967281) (b : Bool) (hb : b = (s.data.toList.contains 0 || s.data.toList.contains 47)) (w : World) :
    Calls Try.prog 27 #[.string s, .string ⟨#[0, 47]⟩] w fun e w' => e = .returned (.bool b) ∧ Below w.heap.size w w' := by
  have h : decide (0 ≤ Lib.indexAny s.data.toList [0, 47]) = b := by
    rw [hb, Bool.eq_iff_iff]
    simp only [decide_eq_true_eq, Bool.or_eq_true, List.contains_iff_mem]
    exact indexAny_ge _
  have H := Lib.hid h
  clear h hb
  go_enter Try.func27, Try.ntmps27
  go_wp2_with (go_at_call 29; refine (indexAny_any s hs _).mono ?_; rintro e w' ⟨rfl, hb⟩)
  go_ret
  exact ⟨congrArg (fun z => Ending.returned (.bool z)) H.out, hb⟩

/-- entry.Right. -/
def rightB (l : List UInt8) : Bool := !l.isEmpty && decide (l.length ≤ 13) && !(l == [46]) && !(l == [46, 46]) && !(l.contains 0 || l.contains 47)

theorem right_nil {s : ByteArray} (h : s.toList = []) : false = rightB s.data.toList := by
  rw [Lib.toList_data] at h; rw [h]; rfl
theorem right_dot {s : ByteArray} (h : s.toList = [46]) : false = rightB s.data.toList := by
  rw [Lib.toList_data] at h; rw [h]; rfl
theorem right_dots {s : ByteArray} (h : s.toList = [46, 46]) : false = rightB s.data.toList := by
  rw [Lib.toList_data] at h; rw [h]; rfl
theorem right_long {s : ByteArray} (h : ¬ s.size ≤ 13) : false = rightB s.data.toList := by
  have : decide (s.data.toList.length ≤ 13) = false := decide_eq_false (by rw [← Lib.size_eq]; exact h)
  unfold rightB
  rw [this, Bool.and_false, Bool.false_and, Bool.false_and, Bool.false_and]
theorem right_rest {s : ByteArray} (h : s.size ≤ 13) (h0 : ¬ s.toList = []) (h1 : ¬ s.toList = [46]) (h2 : ¬ s.toList = [46, 46]) {b : Bool} (hb : b = (s.data.toList.contains 0 || s.data.toList.contains 47)) : (!b) = rightB s.data.toList := by
  rw [Lib.toList_data] at h0 h1 h2
  have e1 : decide (s.data.toList.length ≤ 13) = true := decide_eq_true (by rw [← Lib.size_eq]; exact h)
  unfold rightB
  rw [e1, ← hb, List.isEmpty_eq_false_iff.2 h0, beq_eq_false_iff_ne.2 h1, beq_eq_false_iff_ne.2 h2]
  rfl

theorem ret_bool {a b : Bool} (h : a = b) : Ending.returned (.bool a) = .returned (.bool b) := by rw [h]

set_option maxHeartbeats 1000000 in
theorem right_any (s : ByteArray) (w : World) :
    Calls Try.prog 21 #[.string s] w fun e w' => e = .returned (.bool (rightB s.data.toList)) ∧ Below w.heap.size w w' := by
  by_cases h0 : s.toList = []
  · have h0' : s.toList.isEmpty = true := by rw [h0]; rfl
    have HR := Lib.hid (right_nil h0)
    clear h0
    go_enter Try.func21, Try.ntmps21
    go_wp2_with fail
    go_ret
    exact ⟨ret_bool HR.out, Below.refl _ _⟩
  · have h0' : s.toList.isEmpty = false := List.isEmpty_eq_false_iff.2 h0
    by_cases h : s.size ≤ 13
    · by_cases h1 : s.toList = [46]
      · have HR := Lib.hid (right_dot h1)
        have h1' : (s.toList == [46]) = true := by rw [h1]; rfl
        clear h1 h0
        go_enter Try.func21, Try.ntmps21
        go_wp2_with fail
        go_ret
        exact ⟨ret_bool HR.out, Below.refl _ _⟩
      · have h1' : (s.toList == [46]) = false := beq_eq_false_iff_ne.2 h1
        by_cases h2 : s.toList = [46, 46]
        · have HR := Lib.hid (right_dots h2)
          have h2' : (s.toList == [46, 46]) = true := by rw [h2]; rfl
          clear h2 h1 h0
          go_enter Try.func21, Try.ntmps21
          go_wp2_with fail
          go_ret
          exact ⟨ret_bool HR.out, Below.refl _ _⟩
        · have h2' : (s.toList == [46, 46]) = false := beq_eq_false_iff_ne.2 h2
          obtain ⟨b, hb⟩ : ∃ b, b = (s.data.toList.contains 0 || s.data.toList.contains 47) := ⟨_, rfl⟩
          have hc := fun w => containsAny_any s (by omega) b hb w
          have HR := Lib.hid (right_rest h h0 h1 h2 hb)
          have HC := Lib.hid hc
          clear hc hb h2 h1 h0
          go_enter Try.func21, Try.ntmps21
          go_wp2_with (go_at_call 27; refine (HC.out _).mono ?_; rintro e w' ⟨rfl, hb⟩)
          go_ret
          exact ⟨ret_bool HR.out, hb⟩
    · have HR := Lib.hid (right_long h)
      clear h0
      go_enter Try.func21, Try.ntmps21
      go_wp2_with fail
      go_ret
      exact ⟨ret_bool HR.out, Below.refl _ _⟩

end Go.Proofs.Ytljddpnnfdaplaa.Rt
