/- Walks and plain laws on which the claim stands, several texts joined. -/
import Derived.Laws.FloatArith
import Derived.Test.YtinfjmdcmfpdiaaProg
import Derived.WalkKit
import Derived.WalkSpells
import Derived.WalkLawsBesides
import Derived.Deep.QuietTactic
import Derived.BigQuiet
import Derived.Laws.Externs
import Derived.KernelRfl
import Derived.Lib.Hide
import Derived.Test.YtinfjmdcmfpdiaaM0
import Derived.Test.YtinfjmdcmfpdiaaShelf
import Derived.Laws.RangeAny
import Derived.Laws.Runes
import Derived.Deep.LoopGhost
import Derived.Lib.OthersKept
import Derived.Below
import Derived.Deep.Draws
import Derived.Deep.AppendLies
import Derived.Maps.AppendAt
import Derived.OwnWalk
import Derived.Laws.BytesArg
import Derived.Laws.MakeOwn
import Derived.Laws.OwnMore
import Derived.Deep.OwnRows
import Derived.Tactics
import Derived.Lib.ConvBytes
import Derived.Laws.Slices
import Derived.RowKit3
import Derived.WideLaws
import Derived.Deep.DeepCutAuto
import Derived.Deep.CutBlock
import Derived.Deep.RegionHeld3
import Derived.Laws.Rows
import Derived.Lib.AppendStr
import Derived.ArgAppend
import Derived.Laws.IdiomCopy
import Derived.OrdersHeld
import Derived.Laws.BitsLemmas
import Derived.RowKit
import Derived.Test.YtinfjmdcmfpdiaaWWords
import Derived.Test.YtinfjmdcmfpdiaaWLast
import Derived.Test.YtinfjmdcmfpdiaaWTab
import Derived.Test.YtinfjmdcmfpdiaaWEqStruct
import Derived.Test.YtinfjmdcmfpdiaaWGuard
import Derived.Lib.BufferWrite
import Derived.Laws.CopyOwn
import Derived.Laws.Tables

/- Small whole numbers as float64 words: sums, differences and products of them are exact, and the floor of a quotient by 257 is the whole quotient. Plain: no program in sight. Condition: the numbers are small (below 2^53; below 2^18 at the quotient). -/
namespace Go.Proofs.Ytinfjmdcmfpdiaa.Fl
open Ieee

/-- The word of a whole number. -/
def fl (n : Int) : Nat := FloatKind.f64.nearest n

theorem log2_of {n k : Nat} (h1 : 2 ^ k ≤ n) (h2 : n < 2 ^ (k + 1)) : n.log2 = k := by
  have h0 : n ≠ 0 := by have := Nat.two_pow_pos k; omega
  exact (Nat.log2_eq_iff h0).2 ⟨h1, h2⟩

theorem log2_mul_pow (n j : Nat) (h : n ≠ 0) : (n * 2 ^ j).log2 = n.log2 + j := by
  refine log2_of ?_ ?_
  · rw [Nat.pow_add]; exact Nat.mul_le_mul_right _ (Nat.log2_self_le h)
  · have h1 := @Nat.lt_log2_self n
    have h2 : n.log2 + j + 1 = (n.log2 + 1) + j := by omega
    rw [h2, Nat.pow_add]; exact Nat.mul_lt_mul_of_pos_right h1 (Nat.two_pow_pos _)

theorem log2_le52 {n : Nat} (h0 : n ≠ 0) (h : n < 2 ^ 53) : n.log2 ≤ 52 := by
  have := (Nat.log2_lt h0).2 h
  omega

theorem least : double.leastPlace = -1074 := by decide
theorem bin : double.binade = 4503599627370496 := by decide
theorem infr : double.infRung = 2047 * 4503599627370496 := by decide
theorem sgw : double.signWeight = 9223372036854775808 := by decide

/-- Nothing is cut where nothing is left over. -/
theorem cut_exact (s : Bool) (n k d : Nat) (hd : d ≤ (n * 2 ^ d).log2 + 2) (hk : k = d) : Toward.even.cut s (n * 2 ^ k) d = n := by
  subst hk
  have hp := Nat.two_pow_pos k
  unfold Toward.cut
  have hm : min k ((n * 2 ^ k).log2 + 2) = k := by omega
  simp only [hm, Nat.shiftLeft_eq, Nat.one_mul]
  rw [Nat.mul_div_cancel _ hp, Nat.mul_mod_left]
  have h2 : (2 ^ k == 2 * 0) = false := by simp
  simp [h2]

theorem cut_zero (s : Bool) (n : Nat) : Toward.even.cut s n 0 = n := by
  unfold Toward.cut
  simp [Nat.mod_one]

/-- What is kept of a small whole number: its digits, as many as fit. -/
def rung (n : Nat) : Nat := (n.log2 + 1022) * 4503599627370496 + n * 2 ^ (52 - n.log2)

theorem mag_range {n : Nat} (h0 : n ≠ 0) (h : n < 2 ^ 53) : 4503599627370496 ≤ n * 2 ^ (52 - n.log2) ∧ n * 2 ^ (52 - n.log2) < 9007199254740992 := by
  have hl := log2_le52 h0 h
  have e : (n * 2 ^ (52 - n.log2)).log2 = 52 := by rw [log2_mul_pow _ _ h0]; omega
  have hz : n * 2 ^ (52 - n.log2) ≠ 0 := by
    have := Nat.mul_pos (Nat.pos_of_ne_zero h0) (Nat.two_pow_pos (52 - n.log2)); omega
  have := (Nat.log2_eq_iff hz).1 e
  simpa using this

theorem nearest_int (s : Bool) (n j : Nat) (h0 : n ≠ 0) (h : n < 2 ^ 53) : double.nearest s (n * 2 ^ j) (-(j : Int)) = double.word s (rung n) := by
  have hl := log2_le52 h0 h
  have hz : n * 2 ^ j ≠ 0 := by
    have := Nat.mul_pos (Nat.pos_of_ne_zero h0) (Nat.two_pow_pos j); omega
  have hr := mag_range h0 h
  unfold Format.nearest
  rw [if_neg hz, least, infr, bin, log2_mul_pow _ _ h0]
  have hf : double.fractionBits = 52 := rfl
  have hlast : max (-(j : Int) + ((n.log2 + j : Nat) : Int) - ((double.fractionBits : Nat) : Int)) (-1074) = (n.log2 : Int) - 52 := by rw [hf]; omega
  simp only [hlast]
  have hkept : Toward.even.cut s ((n * 2 ^ j) <<< (-(j : Int) - ((n.log2 : Int) - 52)).toNat) ((n.log2 : Int) - 52 - -(j : Int)).toNat = n * 2 ^ (52 - n.log2) := by
    by_cases hj : j ≤ 52 - n.log2
    · have e1 : (-(j : Int) - ((n.log2 : Int) - 52)).toNat = 52 - n.log2 - j := by omega
      have e2 : ((n.log2 : Int) - 52 - -(j : Int)).toNat = 0 := by omega
      rw [e1, e2, cut_zero, Nat.shiftLeft_eq, Nat.mul_assoc, ← Nat.pow_add]
      congr 2; omega
    · have e1 : (-(j : Int) - ((n.log2 : Int) - 52)).toNat = 0 := by omega
      have e2 : ((n.log2 : Int) - 52 - -(j : Int)).toNat = j - (52 - n.log2) := by omega
      rw [e1, e2, Nat.shiftLeft_eq, Nat.pow_zero, Nat.mul_one]
      have e3 : n * 2 ^ j = n * 2 ^ (52 - n.log2) * 2 ^ (j - (52 - n.log2)) := by
        rw [Nat.mul_assoc, ← Nat.pow_add]; congr 2; omega
      rw [e3]
      refine cut_exact _ _ _ _ ?_ rfl
      rw [← e3, log2_mul_pow _ _ h0]; omega
  rw [hkept]
  unfold rung
  have e4 : ((n.log2 : Int) - 52 - -1074).toNat = n.log2 + 1022 := by omega
  rw [e4]
  congr 1
  have : (n.log2 + 1022) * 4503599627370496 ≤ 1074 * 4503599627370496 := Nat.mul_le_mul_right _ (by omega)
  omega

theorem fl_zero : fl 0 = 0 := by decide

set_option maxRecDepth 100000 in
theorem fl_ne {n : Int} (h0 : n ≠ 0) (h : n.natAbs < 2 ^ 53) : fl n = double.word (decide (n < 0)) (rung n.natAbs) := by
  have h1 : n.natAbs ≠ 0 := by omega
  have := nearest_int (decide (n < 0)) n.natAbs 0 h1 h
  rw [Nat.pow_zero, Nat.mul_one] at this
  exact this

theorem word_eq (s : Bool) (r : Nat) : double.word s r = (if s = true then 9223372036854775808 else 0) + r := by
  cases s
  · exact (Nat.zero_add _).symm
  · show double.signWeight + r = _
    rw [sgw]; rfl

set_option maxRecDepth 100000 in
/-- A word read back. -/
theorem read_word (s : Bool) (E K : Nat) (hK1 : 4503599627370496 ≤ K) (hK2 : K < 9007199254740992) (hE : E ≤ 1100) :
    double.read (double.word s (E * 4503599627370496 + K)) = .number s K ((E : Int) - 1074) := by
  obtain ⟨z, hz⟩ : ∃ z, z = E * 4503599627370496 := ⟨_, rfl⟩
  rw [← hz, word_eq]
  unfold Format.read
  rw [sgw, bin, infr, least]
  have e1 : ((if s = true then 9223372036854775808 else 0) + (z + K)) % 9223372036854775808 = z + K := by
    cases s
    · simp only [Bool.false_eq_true, if_false]; omega
    · simp only [if_true]; omega
  have e2 : (((if s = true then 9223372036854775808 else 0) + (z + K)) / 9223372036854775808 % 2 == 1) = s := by
    cases s
    · simp only [Bool.false_eq_true, if_false, beq_eq_false_iff_ne]; omega
    · simp only [if_true, beq_iff_eq]; omega
  have e3 : (z + K) / 4503599627370496 = E + 1 := by omega
  have e4 : (z + K) % 4503599627370496 = K - 4503599627370496 := by omega
  simp only [e1, e2, e3, e4]
  rw [if_neg (by omega), if_pos (by omega), show 4503599627370496 + (K - 4503599627370496) = K by omega, show (-1074 : Int) + ((E + 1 - 1 : Nat) : Int) = (E : Int) - 1074 by omega]

/-- A power of two among the whole numbers. -/
def P2 (e : Nat) : Int := ((2 ^ e : Nat) : Int)
theorem P2_pos (e : Nat) : 0 < P2 e := by
  unfold P2; exact Int.natCast_pos.2 (Nat.two_pow_pos e)
theorem P2_add (a b : Nat) : P2 (a + b) = P2 a * P2 b := by
  unfold P2; rw [Nat.pow_add, Int.natCast_mul]
theorem cast_P2 (n e : Nat) : ((n * 2 ^ e : Nat) : Int) = (n : Int) * P2 e := by
  unfold P2; rw [Int.natCast_mul]
theorem P2_nat (e : Nat) : (P2 e).natAbs = 2 ^ e := Int.natAbs_natCast _

def sgn (s : Bool) (m : Int) : Int := if s = true then -m else m
theorem sgn_mul (s : Bool) (m p : Int) : sgn s (m * p) = sgn s m * p := by
  unfold sgn; cases s
  · simp
  · simp [Int.neg_mul]

theorem signed_eq (s : Bool) (m k : Nat) : signed s m k = sgn s m * P2 k := by
  unfold signed
  rw [← sgn_mul, Nat.shiftLeft_eq, cast_P2]; rfl

/-- What a datum stands for, if it is a whole number. -/
structure Rep0 (d : Datum) (a : Int) : Prop where
  out : ∃ (s : Bool) (m e : Nat), d = .number s m (-(e : Int)) ∧ sgn s m = a * P2 e
/-- The same, and it is no negative zero. -/
structure Rep (d : Datum) (a : Int) : Prop where
  out : ∃ (s : Bool) (m e : Nat), d = .number s m (-(e : Int)) ∧ sgn s m = a * P2 e ∧ (m = 0 → s = false)

theorem Rep.rep0 {d : Datum} {a : Int} (h : Rep d a) : Rep0 d a := by
  obtain ⟨s, m, e, h1, h2, _⟩ := h.out
  exact ⟨⟨s, m, e, h1, h2⟩⟩

theorem read_zero : double.read 0 = .number false 0 (-1074) := by decide

set_option maxRecDepth 100000 in
theorem rep_read {n : Int} (h : n.natAbs < 2 ^ 53) : Rep (double.read (fl n)) n := by
  by_cases h0 : n = 0
  · subst h0
    refine ⟨⟨false, 0, 1074, ?_, by rw [Int.zero_mul]; rfl, fun _ => rfl⟩⟩
    rw [fl_zero]; exact read_zero
  · have h1 : n.natAbs ≠ 0 := by omega
    have hr := mag_range h1 h
    have hl := log2_le52 h1 h
    rw [fl_ne h0 h, rung, read_word _ _ _ hr.1 hr.2 (by omega)]
    refine ⟨⟨decide (n < 0), n.natAbs * 2 ^ (52 - n.natAbs.log2), 52 - n.natAbs.log2, ?_, ?_, ?_⟩⟩
    · congr 1; omega
    · rw [cast_P2, sgn_mul]
      congr 1
      unfold sgn
      by_cases hn : n < 0
      · simp only [hn, decide_true, if_true]; omega
      · simp only [hn, decide_false, Bool.false_eq_true, if_false]; omega
    · intro hz; omega

theorem sgn_abs (s : Bool) (m : Nat) : (sgn s (m : Int)).natAbs = m := by
  unfold sgn; cases s
  · simp
  · simp
theorem sgn_neg {s : Bool} {m : Nat} (h : m ≠ 0) : s = decide (sgn s (m : Int) < 0) := by
  unfold sgn; cases s
  · simp
  · simp; omega

theorem mul_P2_neg {a : Int} {e : Nat} : a * P2 e < 0 ↔ a < 0 := by
  have hp := P2_pos e
  constructor
  · intro h
    rcases Int.lt_or_le a 0 with h1 | h1
    · exact h1
    · have := Int.mul_nonneg h1 (Int.le_of_lt hp); omega
  · intro h
    exact Int.mul_neg_of_neg_of_pos h hp
theorem mul_P2_zero {a : Int} {e : Nat} : a * P2 e = 0 ↔ a = 0 := by
  have hp := P2_pos e
  constructor
  · intro h
    rcases Int.mul_eq_zero.1 h with h | h
    · exact h
    · omega
  · intro h; rw [h, Int.zero_mul]

set_option maxRecDepth 100000 in
theorem write_rep {d : Datum} {a : Int} (h : Rep d a) (hb : a.natAbs < 2 ^ 53) : double.write d = fl a := by
  obtain ⟨s, m, e, rfl, h2, h3⟩ := h.out
  by_cases h0 : a = 0
  · subst h0
    have hm : m = 0 := by
      have := sgn_abs s m
      rw [h2, Int.zero_mul] at this; exact this.symm
    subst hm
    rw [h3 rfl, fl_zero]
    unfold Format.write Format.nearest
    rfl
  · have hm : m = a.natAbs * 2 ^ e := by
      have := sgn_abs s m
      rw [h2, Int.natAbs_mul, P2_nat] at this; exact this.symm
    have hmz : m ≠ 0 := by rw [hm]; exact Nat.ne_of_gt (Nat.mul_pos (by omega) (Nat.two_pow_pos _))
    have hs : s = decide (a < 0) := by
      have h4 := sgn_neg (s := s) hmz
      rw [h2] at h4
      simp only [mul_P2_neg] at h4
      exact h4
    subst hm
    show double.nearest s (a.natAbs * 2 ^ e) (-(e : Int)) = _
    rw [nearest_int _ _ _ (by omega) hb, fl_ne h0 hb, hs]

theorem rep_sum {d d' : Datum} {a b : Int} (h : Rep d a) (h' : Rep0 d' b) : ∃ r, d.sum d' = some r ∧ Rep r (a + b) := by
  obtain ⟨s, m, e, rfl, h2, h3⟩ := h.out
  obtain ⟨t, n, e', rfl, h2'⟩ := h'.out
  have hmn : min (-(e : Int)) (-(e' : Int)) = -((max e e' : Nat) : Int) := by omega
  have e1 : (-(e : Int) - -((max e e' : Nat) : Int)).toNat = max e e' - e := by omega
  have e2 : (-(e' : Int) - -((max e e' : Nat) : Int)).toNat = max e e' - e' := by omega
  have htot : signed s m (max e e' - e) + signed t n (max e e' - e') = (a + b) * P2 (max e e') := by
    rw [signed_eq, signed_eq, h2, h2', Int.mul_assoc, Int.mul_assoc, ← P2_add, ← P2_add, Int.add_mul, show e + (max e e' - e) = max e e' by omega, show e' + (max e e' - e') = max e e' by omega]
  have hsum : (Datum.number s m (-(e : Int))).sum (.number t n (-(e' : Int))) = some (.number (if (a + b) * P2 (max e e') = 0 then s && t else decide ((a + b) * P2 (max e e') < 0)) ((a + b) * P2 (max e e')).natAbs (-((max e e' : Nat) : Int))) := by
    unfold Datum.sum
    simp only [hmn, e1, e2, htot]
  generalize hT : (a + b) * P2 (max e e') = T at hsum htot
  refine ⟨_, hsum, ⟨⟨_, _, _, rfl, ?_, ?_⟩⟩⟩
  · rw [hT]
    unfold sgn
    by_cases hz : T = 0
    · subst hz; simp
    · by_cases hn : T < 0
      · simp only [hz, hn, decide_true, if_true, if_false]; omega
      · simp only [hz, hn, decide_false, if_false, Bool.false_eq_true]; omega
  · intro hz
    have hz' : T = 0 := by omega
    rw [if_pos hz']
    have hab : a + b = 0 := mul_P2_zero.1 (hT.trans hz')
    by_cases hm : m = 0
    · rw [h3 hm]; rfl
    · cases s with
      | false => rfl
      | true =>
        cases t with
        | false => rfl
        | true =>
          exfalso
          have ha : a < 0 := by
            have : sgn true (m : Int) < 0 := by unfold sgn; simp; omega
            rw [h2] at this; exact mul_P2_neg.1 this
          have hb : ¬ 0 < b := by
            intro hb
            have h4 := Int.mul_pos hb (P2_pos e')
            rw [← h2'] at h4
            unfold sgn at h4; simp at h4; omega
          omega

theorem rep_opposite {d : Datum} {a : Int} (h : Rep d a) : Rep0 d.opposite (-a) := by
  obtain ⟨s, m, e, rfl, h2, _⟩ := h.out
  refine ⟨⟨!s, m, e, rfl, ?_⟩⟩
  rw [Int.neg_mul, ← h2]
  unfold sgn
  cases s <;> simp

theorem rep_product {d d' : Datum} {a b : Int} (h : Rep d a) (h' : Rep d' b) (hs : 0 ≤ a ∧ 0 ≤ b ∨ 0 < a) : ∃ r, d.product d' = some r ∧ Rep r (a * b) := by
  obtain ⟨s, m, e, rfl, h2, h3⟩ := h.out
  obtain ⟨t, n, e', rfl, h2', h3'⟩ := h'.out
  have hs0 : s = false := by
    cases s with
    | false => rfl
    | true =>
      by_cases hm : m = 0
      · exact h3 hm
      · exfalso
        have h4 : sgn true (m : Int) < 0 := by unfold sgn; simp; omega
        rw [h2, mul_P2_neg] at h4; omega
  subst hs0
  have hpl : -(e : Int) + -(e' : Int) = -((e + e' : Nat) : Int) := by omega
  refine ⟨.number (false ^^ t) (m * n) (-((e + e' : Nat) : Int)), by rw [← hpl]; rfl, ⟨⟨_, _, _, rfl, ?_, ?_⟩⟩⟩
  · rw [P2_add, show a * b * (P2 e * P2 e') = (a * P2 e) * (b * P2 e') by ac_rfl, ← h2, ← h2']
    unfold sgn
    cases t
    · simp
    · simp [Int.mul_neg]
  · intro hz
    cases t with
    | false => rfl
    | true =>
      have hn : n ≠ 0 := fun h => by have := h3' h; cases this
      have hm : m = 0 := by
        rcases Nat.mul_eq_zero.1 hz with h | h
        · exact h
        · exact absurd h hn
      subst hm
      exfalso
      have ha : a = 0 := by
        rw [← mul_P2_zero (e := e), ← h2]; rfl
      have h4 : sgn true (n : Int) < 0 := by unfold sgn; simp; omega
      rw [h2', mul_P2_neg] at h4
      omega

set_option maxRecDepth 100000 in
theorem fl_add {a b : Int} (ha : a.natAbs < 2 ^ 52) (hb : b.natAbs < 2 ^ 52) : floatBits .add .f64 (fl a) (fl b) = some (fl (a + b)) := by
  obtain ⟨r, h1, h2⟩ := rep_sum (rep_read (n := a) (by omega)) (rep_read (n := b) (by omega)).rep0
  show (((double.read (fl a)).sum (double.read (fl b))).map double.write) = _
  rw [h1, Option.map_some, write_rep h2 (by omega)]

set_option maxRecDepth 100000 in
theorem fl_sub {a b : Int} (ha : a.natAbs < 2 ^ 52) (hb : b.natAbs < 2 ^ 52) : floatBits .sub .f64 (fl a) (fl b) = some (fl (a - b)) := by
  obtain ⟨r, h1, h2⟩ := rep_sum (rep_read (n := a) (by omega)) (rep_opposite (rep_read (n := b) (by omega)))
  show (((double.read (fl a)).sum (double.read (fl b)).opposite).map double.write) = _
  rw [h1, Option.map_some, write_rep h2 (by omega)]; rfl

set_option maxRecDepth 100000 in
theorem fl_mul {a b : Int} (ha : a.natAbs < 2 ^ 53) (hb : b.natAbs < 2 ^ 53) (hab : (a * b).natAbs < 2 ^ 53) (hs : 0 ≤ a ∧ 0 ≤ b ∨ 0 < a) : floatBits .mul .f64 (fl a) (fl b) = some (fl (a * b)) := by
  obtain ⟨r, h1, h2⟩ := rep_product (rep_read (n := a) ha) (rep_read (n := b) hb) hs
  show (((double.read (fl a)).product (double.read (fl b))).map double.write) = _
  rw [h1, Option.map_some, write_rep h2 hab]

set_option maxHeartbeats 2000000 in
theorem core4 (n l q r E t U V D mag k kept st : Nat) (hl : l ≤ 17) (h1 : 2 ^ l ≤ n) (h2 : n < 2 ^ (l+1)) (hE : E = 2 ^ (59 - l)) (hn : n = 257 * q + r) (hr : r < 257)
   (hU : U = q * E) (hV : V = r * E) (ht : t = n * 2 ^ (17 - l)) (hD1 : 257 * D ≤ n * (8 * E)) (hD2 : n * (8 * E) < 257 * D + 257) (hst : st ≤ 1) (hst0 : n * (8 * E) = 257 * D → st = 0) (hm : mag = 2 * D + st) (hk : k ≤ 1) :
   (18014398509481984 ≤ mag ∧ mag < 72057594037927936) ∧
   (mag < 36028797018963968 → kept = mag / 4 + k → (k = 1 → 2 ≤ mag % 4) →
      4503599627370496 ≤ kept ∧ kept < 9007199254740992 ∧ 4 * U ≤ kept ∧ kept < 4 * U + 4 * E ∧ (kept = 4 * U ↔ r = 0)) ∧
   (36028797018963968 ≤ mag → kept = mag / 8 + k → (k = 1 → 4 ≤ mag % 8) →
      4503599627370496 ≤ kept ∧ kept < 9007199254740992 ∧ 2 * U ≤ kept ∧ kept < 2 * U + 2 * E ∧ (kept = 2 * U ↔ r = 0)) := by
  have hE1 : 4398046511104 ≤ E := by
    rw [hE]; exact Nat.pow_le_pow_right (n := 2) (by decide) (show 42 ≤ 59 - l by omega)
  have hnE : n * (8 * E) = 8 * (257 * U) + 8 * V := by
    rw [hU, hV, hn, show (257 * q + r) * (8 * E) = 8 * ((257 * q + r) * E) by ac_rfl, Nat.add_mul]
    rw [Nat.mul_add, show 257 * q * E = 257 * (q * E) by ac_rfl]
  have hnt : n * (8 * E) = 35184372088832 * t := by
    have e8 : 8 * E = 2 ^ (17 - l) * 35184372088832 := by
      rw [hE, show (8 : Nat) = 2 ^ 3 by rfl, show (35184372088832 : Nat) = 2 ^ 45 by rfl, ← Nat.pow_add, ← Nat.pow_add]; congr 1; omega
    rw [e8, ht]; ac_rfl
  have hlo : 4611686018427387904 ≤ n * (8 * E) := by
    have : 2 ^ l * (8 * E) = 4611686018427387904 := by
      rw [hE, show (8 : Nat) = 2 ^ 3 by rfl, ← Nat.pow_add, ← Nat.pow_add, show l + (3 + (59 - l)) = 62 by omega]
    rw [← this]; exact Nat.mul_le_mul_right _ h1
  have hhi : n * (8 * E) < 9223372036854775808 := by
    have : 2 ^ (l + 1) * (8 * E) = 9223372036854775808 := by
      rw [hE, show (8 : Nat) = 2 ^ 3 by rfl, ← Nat.pow_add, ← Nat.pow_add, show l + 1 + (3 + (59 - l)) = 63 by omega]
    rw [← this]; exact Nat.mul_lt_mul_of_pos_right h2 (by omega)
  have hV1 : V ≤ 256 * E := by rw [hV]; exact Nat.mul_le_mul_right _ (by omega)
  have hV2 : r = 0 → V = 0 := by intro h; rw [hV, h, Nat.zero_mul]
  have hV3 : r ≠ 0 → E ≤ V := by intro h; rw [hV]; exact Nat.le_mul_of_pos_left _ (by omega)
  generalize n * (8 * E) = A at *
  clear hU hV ht hn hE h1 h2
  subst hm
  refine ⟨by omega, ?_, ?_⟩
  · rintro hlt rfl hk1
    refine ⟨by omega, by omega, by omega, by omega, ?_⟩
    by_cases h0 : r = 0
    · have := hV2 h0; have hs := hst0 (by omega); simp only [h0, iff_true]; omega
    · have := hV3 h0; simp only [h0, iff_false]; omega
  · rintro hlt rfl hk1
    refine ⟨by omega, by omega, by omega, by omega, ?_⟩
    by_cases h0 : r = 0
    · have := hV2 h0; have hs := hst0 (by omega); simp only [h0, iff_true]; omega
    · have := hV3 h0; simp only [h0, iff_false]; omega

end Go.Proofs.Ytinfjmdcmfpdiaa.Fl

/- The floor of a quotient by 257 of small whole numbers, as float64 words, is the whole quotient. Plain: no program in sight. Condition: the number is below 2^18. -/
namespace Go.Proofs.Ytinfjmdcmfpdiaa.Fl
open Ieee

theorem cut_down (s : Bool) (n d : Nat) : Toward.down.cut s n d = n / 2 ^ d + (s && n % 2 ^ d != 0).toNat := by
  have hlt := @Nat.lt_log2_self n
  unfold Toward.cut
  simp only [Nat.shiftLeft_eq, Nat.one_mul]
  by_cases h : d ≤ n.log2 + 2
  · rw [Nat.min_eq_left h]
  · rw [Nat.min_eq_right (by omega)]
    have h1 : n < 2 ^ (n.log2 + 2) := Nat.lt_of_lt_of_le hlt (Nat.pow_le_pow_right (by decide) (by omega))
    have h2 : n < 2 ^ d := Nat.lt_of_lt_of_le h1 (Nat.pow_le_pow_right (by decide) (by omega))
    rw [Nat.div_eq_of_lt h1, Nat.div_eq_of_lt h2, Nat.mod_eq_of_lt h1, Nat.mod_eq_of_lt h2]

/-- The nearest even cut: what it is, told by one bit. -/
theorem cut_even (s : Bool) (n d : Nat) (hd : d ≤ n.log2 + 2) : ∃ k, k ≤ 1 ∧ Toward.even.cut s n d = n / 2 ^ d + k ∧ (k = 1 → 2 ^ d ≤ 2 * (n % 2 ^ d)) := by
  refine ⟨_, ?_, by unfold Toward.cut; simp only [Nat.shiftLeft_eq, Nat.one_mul, Nat.min_eq_left hd]; rfl, ?_⟩
  · exact Bool.toNat_le _
  · intro h
    have h' := Bool.toNat_eq_one.1 h
    simp only [Bool.or_eq_true, Bool.and_eq_true, decide_eq_true_eq, beq_iff_eq] at h'
    omega

/-- What becomes of a quotient that is cut downwards, told in whole numbers: mag * 2 ^ (l - 63), of about 2 ^ 54 or 2 ^ 55. -/
theorem floor_of_nearest (s : Bool) (mag l g kept q E u : Nat) (hl : l ≤ 17) (hg : g = 2 ∨ g = 3) (hlog : mag.log2 = 52 + g)
    (hcut : Toward.even.cut s mag g = kept) (hk1 : 4503599627370496 ≤ kept) (hk2 : kept < 9007199254740992)
    (hE : E = 2 ^ (63 - l - g)) (hq1 : q * E ≤ kept) (hq2 : kept < (q + 1) * E) (hu : u = (s && decide (kept ≠ q * E)).toNat) :
    ∃ m i, double.read (double.nearest s mag ((l : Int) - 63)) = .number s m i ∧ (Datum.number s m i).integral .down = .number s (q + u) 0 := by
  have hz : mag ≠ 0 := by intro h; rw [h] at hlog; simp [Nat.log2_zero] at hlog; omega
  have hn : double.nearest s mag ((l : Int) - 63) = double.word s ((l + g + 1011) * 4503599627370496 + kept) := by
    unfold Format.nearest
    rw [if_neg hz, least, infr, bin, hlog]
    have hf : double.fractionBits = 52 := rfl
    have hlast : max ((l : Int) - 63 + ((52 + g : Nat) : Int) - ((double.fractionBits : Nat) : Int)) (-1074) = (l : Int) + g - 63 := by rw [hf]; omega
    simp only [hlast]
    have e1 : ((l : Int) - 63 - ((l : Int) + g - 63)).toNat = 0 := by omega
    have e2 : ((l : Int) + g - 63 - ((l : Int) - 63)).toNat = g := by omega
    have e3 : ((l : Int) + g - 63 - -1074).toNat = l + g + 1011 := by omega
    rw [e1, e2, e3, Nat.shiftLeft_eq, Nat.pow_zero, Nat.mul_one, hcut, Nat.min_eq_left (by omega)]
  refine ⟨kept, (l : Int) + g - 63, ?_, ?_⟩
  · rw [hn, read_word _ _ _ hk1 hk2 (by omega), show ((l + g + 1011 : Nat) : Int) - 1074 = (l : Int) + g - 63 by omega]
  · unfold Datum.integral
    have e1 : ((l : Int) + g - 63).toNat = 0 := by omega
    have e2 : (-((l : Int) + g - 63)).toNat = 63 - l - g := by omega
    simp only [e1, e2, Nat.shiftLeft_eq, Nat.pow_zero, Nat.mul_one, cut_down, ← hE]
    have hE0 : 0 < E := by rw [hE]; exact Nat.two_pow_pos _
    have hdiv : kept / E = q := by
      rw [Nat.div_eq_iff hE0]; rw [Nat.add_mul] at hq2; omega
    have hmod : kept % E = kept - q * E := by
      have := Nat.div_add_mod kept E
      rw [hdiv, Nat.mul_comm] at this; omega
    rw [hdiv, hmod, hu]
    have hb : (kept - q * E != 0) = decide (kept ≠ q * E) := by
      by_cases h : kept = q * E
      · rw [h, Nat.sub_self]; simp
      · have h' : kept - q * E ≠ 0 := by omega
        rw [bne_iff_ne.2 h', decide_eq_true h]
    rw [hb]

theorem fl257 : double.read (fl 257) = .number false (257 * 2 ^ 44) (-44) := by decide
theorem log257 : (257 * 2 ^ 44).log2 = 52 := by decide
theorem zero257 : double.div 0 (fl 257) = some 0 := by decide

theorem fin_of (f : Int) (s : Bool) (n q r u : Nat) (hn : n = f.natAbs) (hnb : n < 262144) (h0 : f ≠ 0) (hs : s = decide (f < 0)) (hq : q = n / 257) (hr : r = n % 257)
    (hu : u = (s && decide (r ≠ 0)).toNat) : double.write (.number s (q + u) 0) = fl (f / 257) := by
  have hu1 : u ≤ 1 := by rw [hu]; exact Bool.toNat_le _
  have hu2 : f < 0 → (r = 0 → u = 0) ∧ (r ≠ 0 → u = 1) := by
    intro h
    rw [hu, hs, decide_eq_true h, Bool.true_and]
    exact ⟨fun h => by rw [decide_eq_false (by omega)]; rfl, fun h => by rw [decide_eq_true h]; rfl⟩
  have hu3 : ¬ f < 0 → u = 0 := by
    intro h
    rw [hu, hs, decide_eq_false h, Bool.false_and]; rfl
  clear hu
  refine write_rep ⟨⟨s, q + u, 0, rfl, ?_, ?_⟩⟩ (by omega)
  · have : P2 0 = 1 := rfl
    rw [this, Int.mul_one]
    unfold sgn
    by_cases hneg : f < 0
    · have := hu2 hneg
      rw [hs, decide_eq_true hneg, if_pos rfl]; omega
    · have := hu3 hneg
      rw [hs, decide_eq_false hneg, if_neg (by decide)]; omega
  · intro hz
    by_cases hneg : f < 0
    · exfalso
      have := hu2 hneg
      omega
    · rw [hs, decide_eq_false hneg]

theorem floor_of_core (s : Bool) (mag l q r : Nat) (g : Nat) (hl : l ≤ 17) (hg : g = 2 ∨ g = 3) (hlog : mag.log2 = 52 + g)
    (hc : ∀ k kept, k ≤ 1 → kept = mag / 2 ^ g + k → (k = 1 → 2 ^ g ≤ 2 * (mag % 2 ^ g)) → 4503599627370496 ≤ kept ∧ kept < 9007199254740992 ∧ q * 2 ^ (63 - l - g) ≤ kept ∧ kept < (q + 1) * 2 ^ (63 - l - g) ∧ (kept = q * 2 ^ (63 - l - g) ↔ r = 0)) :
    ∃ m i, double.read (double.nearest s mag ((l : Int) - 63)) = .number s m i ∧ (Datum.number s m i).integral .down = .number s (q + (s && decide (r ≠ 0)).toNat) 0 := by
  obtain ⟨k, hk, hcut, hk1⟩ := cut_even s mag g (by omega)
  obtain ⟨c1, c2, c3, c4, c5⟩ := hc k _ hk hcut hk1
  obtain ⟨m, i, hm, hi⟩ := floor_of_nearest s mag l g _ q _ _ hl hg hlog rfl c1 c2 rfl c3 c4 rfl
  have hd : decide (Toward.even.cut s mag g ≠ q * 2 ^ (63 - l - g)) = decide (r ≠ 0) := decide_eq_decide.2 (not_congr c5)
  exact ⟨m, i, hm, by rw [hi, hd]⟩

theorem core2 (n l q r : Nat) (hl : l ≤ 17) (h1 : 2 ^ l ≤ n) (h2 : n < 2 ^ (l+1)) (hq : q = n / 257) (hr : r = n % 257) (D mag st : Nat) (hD : D = n * (8 * 2 ^ (59 - l)) / 257) (hst : st ≤ 1) (hst0 : n * (8 * 2 ^ (59 - l)) = 257 * D → st = 0) (hm : mag = 2 * D + st) :
    (18014398509481984 ≤ mag ∧ mag < 72057594037927936) ∧
    (mag < 36028797018963968 → ∀ k kept, k ≤ 1 → kept = mag / 2 ^ 2 + k → (k = 1 → 2 ^ 2 ≤ 2 * (mag % 2 ^ 2)) → 4503599627370496 ≤ kept ∧ kept < 9007199254740992 ∧ q * 2 ^ (63 - l - 2) ≤ kept ∧ kept < (q + 1) * 2 ^ (63 - l - 2) ∧ (kept = q * 2 ^ (63 - l - 2) ↔ r = 0)) ∧
    (36028797018963968 ≤ mag → ∀ k kept, k ≤ 1 → kept = mag / 2 ^ 3 + k → (k = 1 → 2 ^ 3 ≤ 2 * (mag % 2 ^ 3)) → 4503599627370496 ≤ kept ∧ kept < 9007199254740992 ∧ q * 2 ^ (63 - l - 3) ≤ kept ∧ kept < (q + 1) * 2 ^ (63 - l - 3) ∧ (kept = q * 2 ^ (63 - l - 3) ↔ r = 0)) := by
  have e2 : 2 ^ (63 - l - 2) = 4 * 2 ^ (59 - l) := by
    rw [show 4 * 2 ^ (59 - l) = 2 ^ 2 * 2 ^ (59 - l) by rfl, ← Nat.pow_add]; congr 1; omega
  have e3 : 2 ^ (63 - l - 3) = 2 * 2 ^ (59 - l) := by
    rw [show 2 * 2 ^ (59 - l) = 2 ^ 1 * 2 ^ (59 - l) by rfl, ← Nat.pow_add]; congr 1; omega
  have hD1 : 257 * D ≤ n * (8 * 2 ^ (59 - l)) := by rw [hD]; exact Nat.mul_div_le _ _
  have hD2 : n * (8 * 2 ^ (59 - l)) < 257 * D + 257 := by
    rw [hD]; exact Nat.lt_mul_div_succ _ (by decide)
  have hc := fun k kept hk => core4 n l q r (2 ^ (59 - l)) _ _ _ D mag k kept st hl h1 h2 rfl (by rw [hq, hr]; exact (Nat.div_add_mod n 257).symm) (by rw [hr]; exact Nat.mod_lt _ (by decide)) rfl rfl rfl hD1 hD2 hst hst0 hm hk
  clear hD1 hD2 hD hst0 hm h1 h2 hq hr
  generalize 2 ^ (59 - l) = E at *
  refine ⟨(hc 0 0 (by decide)).1, fun hb k kept hk h3 h4 => ?_, fun hb k kept hk h3 h4 => ?_⟩
  · obtain ⟨c1, c2, c3, c4, c5⟩ := (hc k kept hk).2.1 hb h3 (by intro h; have := h4 h; clear hc; omega)
    clear hc
    rw [e2, Nat.add_mul, show q * (4 * E) = 4 * (q * E) by ac_rfl, Nat.one_mul]
    exact ⟨c1, c2, c3, c4, c5⟩
  · obtain ⟨c1, c2, c3, c4, c5⟩ := (hc k kept hk).2.2 hb h3 (by intro h; have := h4 h; clear hc; omega)
    clear hc
    rw [e3, Nat.add_mul, show q * (2 * E) = 2 * (q * E) by ac_rfl, Nat.one_mul]
    exact ⟨c1, c2, c3, c4, c5⟩

theorem quotient_of (s : Bool) (n l A : Nat) (hl : l ≤ 17) (hMl : (n * 2 ^ (52 - l)).log2 = 52) (hA : A = n * (8 * 2 ^ (59 - l))) :
    (Datum.number s (n * 2 ^ (52 - l)) (((l + 1022 : Nat) : Int) - 1074)).quotient (double.fractionBits + 2) (double.read (fl 257)) = some (.number s (2 * (A / 257) + (A % 257 != 0).toNat) ((l : Int) - 63)) := by
  have hdvd : (n * 2 ^ (52 - l)) <<< 54 = A * 2 ^ 44 := by
    rw [Nat.shiftLeft_eq, hA, show (8 : Nat) = 2 ^ 3 by rfl, Nat.mul_assoc, Nat.mul_assoc, ← Nat.pow_add, ← Nat.pow_add, ← Nat.pow_add, show 52 - l + 54 = 3 + (59 - l) + 44 by omega]
  rw [fl257]
  unfold Datum.quotient
  have hfr : double.fractionBits + 2 = 54 := rfl
  simp only [hMl, log257, hfr]
  rw [if_neg (by decide)]
  have e1 : 54 + 52 - 52 = 54 := rfl
  rw [e1, hdvd, Nat.mul_div_mul_right _ _ (Nat.two_pow_pos 44), Nat.mul_mod_mul_right]
  have e2 : (A % 257 * 2 ^ 44 != 0) = (A % 257 != 0) := by
    rw [Bool.eq_iff_iff]; simp only [bne_iff_ne, ne_eq]
    have := Nat.two_pow_pos 44
    constructor
    · intro h h'; exact h (by rw [h', Nat.zero_mul])
    · intro h h'
      rcases Nat.mul_eq_zero.1 h' with h'' | h''
      · exact h h''
      · omega
  rw [e2, Bool.xor_false, show ((l + 1022 : Nat) : Int) - 1074 - -44 - ((54 : Nat) : Int) - 1 = (l : Int) - 63 by omega]

set_option maxRecDepth 100000 in
theorem fl_floor (f : Int) (hf : f.natAbs < 262144) : ∃ r, floatBits .quo .f64 (fl f) (fl 257) = some r ∧ ∃ s m i, double.read r = .number s m i ∧ double.write ((Datum.number s m i).integral .down) = fl (f / 257) := by
  by_cases h0 : f = 0
  · subst h0
    refine ⟨0, by rw [fl_zero]; exact zero257, false, 0, -1074, read_zero, by decide⟩
  · obtain ⟨n, hn⟩ : ∃ n, n = f.natAbs := ⟨_, rfl⟩
    have hn0 : n ≠ 0 := by omega
    have hnb : n < 262144 := by omega
    obtain ⟨l, hll⟩ : ∃ l, l = n.log2 := ⟨_, rfl⟩
    have hl : l ≤ 17 := by
      have := (Nat.log2_lt (k := 18) hn0).2 (by omega)
      omega
    have h1 := Nat.log2_self_le hn0
    have h2 := @Nat.lt_log2_self n
    have hMl : (n * 2 ^ (52 - l)).log2 = 52 := by rw [log2_mul_pow _ _ hn0]; omega
    rw [← hll] at h1 h2
    obtain ⟨s, hs⟩ : ∃ s, s = decide (f < 0) := ⟨_, rfl⟩
    have hread : double.read (fl f) = .number s (n * 2 ^ (52 - l)) (((l + 1022 : Nat) : Int) - 1074) := by
      have hM := mag_range hn0 (by omega : n < 2 ^ 53)
      rw [hll, fl_ne h0 (by omega), rung, ← hn, read_word _ _ _ hM.1 hM.2 (by omega), hs]
    obtain ⟨A, hA⟩ : ∃ A, A = n * (8 * 2 ^ (59 - l)) := ⟨_, rfl⟩
    have hquo := quotient_of s n l A hl hMl hA
    rw [← hread] at hquo
    obtain ⟨mag, hmag⟩ : ∃ mag, mag = 2 * (A / 257) + (A % 257 != 0).toNat := ⟨_, rfl⟩
    rw [← hmag] at hquo
    have hst0 : A = 257 * (A / 257) → (A % 257 != 0).toNat = 0 := by
      intro h
      have : A % 257 = 0 := by clear hquo hread hMl h1 h2 hf hmag; omega
      rw [this]; rfl
    have hc := core2 n l (n / 257) (n % 257) hl h1 h2 rfl rfl (A / 257) mag _ (by rw [hA]) (Bool.toNat_le _) (by rw [← hA]; exact hst0) hmag
    have hex : ∃ m i, double.read (double.nearest s mag ((l : Int) - 63)) = .number s m i ∧ (Datum.number s m i).integral .down = .number s (n / 257 + (s && decide (n % 257 ≠ 0)).toNat) 0 := by
      clear hquo hread hMl h1 h2 hf hmag hst0 hA hs hn hn0 hnb h0 hll
      by_cases hbig : mag < 36028797018963968
      · exact floor_of_core s mag l _ _ 2 hl (.inl rfl) (log2_of (by have := hc.1; omega) (by omega)) (hc.2.1 hbig)
      · exact floor_of_core s mag l _ _ 3 hl (.inr rfl) (log2_of (by omega) (by have := hc.1; omega)) (hc.2.2 (by omega))
    obtain ⟨m, i, hm, hi⟩ := hex
    refine ⟨double.nearest s mag ((l : Int) - 63), ?_, s, m, i, hm, ?_⟩
    · show (((double.read (fl f)).quotient (double.fractionBits + 2) (double.read (fl 257))).map double.write) = _
      rw [hquo]; rfl
    · rw [hi]
      exact fin_of f s n _ _ _ hn hnb h0 hs rfl rfl rfl

end Go.Proofs.Ytinfjmdcmfpdiaa.Fl

/- The functions of package spin that compute with floats: what each call gives for small whole numbers. Conditions: the numbers are small. -/
namespace Go.Proofs.Ytinfjmdcmfpdiaa.Sp
open Go.RowKit Go.Proofs.Ytinfjmdcmfpdiaa.Fl
open Ieee (Datum Toward double)

theorem cut_toward_zero (s : Bool) (n d : Nat) : Toward.zero.cut s n d = n / 2 ^ d := by
  have hlt := @Nat.lt_log2_self n
  unfold Toward.cut
  simp only [Nat.shiftLeft_eq, Nat.one_mul]
  by_cases h : d ≤ n.log2 + 2
  · rw [Nat.min_eq_left h]; rfl
  · rw [Nat.min_eq_right (by omega)]
    have h1 : n < 2 ^ (n.log2 + 2) := Nat.lt_of_lt_of_le hlt (Nat.pow_le_pow_right (by decide) (by omega))
    have h2 : n < 2 ^ d := Nat.lt_of_lt_of_le h1 (Nat.pow_le_pow_right (by decide) (by omega))
    rw [Nat.div_eq_of_lt h1, Nat.div_eq_of_lt h2]; rfl

theorem rep_toInt {d : Datum} {n : Int} (h : Rep d n) : d.toInt .zero = some n := by
  obtain ⟨s, m, e, rfl, h2, _⟩ := h.out
  have hm : m = n.natAbs * 2 ^ e := by
    have := sgn_abs s m
    rw [h2, Int.natAbs_mul, P2_nat] at this; exact this.symm
  unfold Datum.toInt Datum.integral
  have e1 : (-(e : Int)).toNat = 0 := by omega
  have e2 : (- -(e : Int)).toNat = e := by omega
  have e3 : m / 2 ^ e = n.natAbs := by rw [hm]; exact Nat.mul_div_cancel _ (Nat.two_pow_pos e)
  simp only [e1, e2, Nat.shiftLeft_eq, Nat.pow_zero, Nat.mul_one, cut_toward_zero, e3, signed_eq]
  have h1 : P2 0 = 1 := rfl
  rw [h1, Int.mul_one]
  congr 1
  have hp := P2_pos e
  have h3 : sgn s (n.natAbs : Int) * P2 e = n * P2 e := by rw [← sgn_mul, ← cast_P2, ← hm, h2]
  exact Int.eq_of_mul_eq_mul_right (by omega) h3

set_option maxRecDepth 100000 in
theorem toInt_fl {n : Int} (h : n.natAbs < 2 ^ 53) : floatToIntVal .f64 (fl n) .i64 = some n := by
  unfold floatToIntVal
  have : (FloatKind.f64.decode (fl n)).toInt .zero = some n := rep_toInt (rep_read h)
  rw [this]
  have h2 : IntKind.min .i64 ≤ n ∧ n ≤ IntKind.max .i64 := by
    have e1 : IntKind.min .i64 = -9223372036854775808 := by decide
    have e2 : IntKind.max .i64 = 9223372036854775807 := by decide
    rw [e1, e2]; omega
  simp only [if_pos h2]

/-- math.archFloor of a number. -/
theorem archFloor_run (x : Nat) (s : Bool) (m : Nat) (i : Int) (h : double.read x = .number s m i) (w : World) :
    (callFunc 64 #[.float .f64 x]).run Try.prog w = .ok (.value (.float .f64 (double.write ((Datum.number s m i).integral .down)))) w := by
  rw [run_callFunc_extern Try.func64 (by kernel_rfl) (by kernel_rfl) (by kernel_rfl) (e := Extern.MathFloor.toIntegral "math.archFloor" .down) (by kernel_rfl)]
  have hd : FloatKind.f64.decode x = .number s m i := h
  have e1 : Extern.MathFloor.toIntegral "math.archFloor" .down #[.float .f64 x] = (match FloatKind.f64.decode x with
    | .nan s t =>
      if FloatKind.f64.format.quiet t = t then pure (.float .f64 x) else do
      let kept ← choose (.extern "math.Floor,Ceil,Trunc,RoundToEven.signallingNaN kept" 2)
      pure (.float .f64 (if kept == 1 then x else FloatKind.f64.encode (.nan s (FloatKind.f64.format.quiet t))))
    | d => pure (.float .f64 (FloatKind.f64.encode (d.integral .down)))) := rfl
  rw [e1, hd]
  rfl

set_option maxHeartbeats 400000 in
theorem floor_any (x : Nat) (s : Bool) (m : Nat) (i : Int) (y : Nat) (h : double.read x = .number s m i) (hy : double.write ((Datum.number s m i).integral .down) = y) (w : World) :
    Calls Try.prog 62 #[.float .f64 x] w fun e w' => e = .returned (.float .f64 y) ∧ w' = w := by
  have hx := archFloor_run x s m i h
  rw [hy] at hx
  clear hy h
  go_enter Try.func62, Try.ntmps62
  go_wp2
  go_ret
  exact ⟨rfl, rfl⟩

theorem fl257_word : fl 257 = 4643228808005025792 := by decide

set_option maxHeartbeats 400000 in
/-- spin.rest of a small whole number. -/
theorem rest_any (f : Int) (hf : f.natAbs < 262144) (w : World) :
    Calls Try.prog 60 #[.float .f64 (fl f)] w fun e w' => e = .returned (.float .f64 (fl (f % 257))) ∧ w' = w := by
  obtain ⟨r, hr, s, m, i, h1, h2⟩ := fl_floor f hf
  rw [fl257_word] at hr
  have hq := fun t w => run_float_arith (P := Try.prog) w .quo t .f64 _ _ _ hr
  have hm : floatBits .mul .f64 4643228808005025792 (fl (f / 257)) = some (fl (257 * (f / 257))) := by
    rw [← fl257_word]; exact fl_mul (by decide) (by omega) (by omega) (.inr (by decide))
  have hs : floatBits .sub .f64 (fl f) (fl (257 * (f / 257))) = some (fl (f % 257)) := by
    rw [fl_sub (by omega) (by omega), show f - 257 * (f / 257) = f % 257 by omega]
  have hm' := fun t w => run_float_arith (P := Try.prog) w .mul t .f64 _ _ _ hm
  have hs' := fun t w => run_float_arith (P := Try.prog) w .sub t .f64 _ _ _ hs
  have H1 := Lib.hid h1
  have H2 := Lib.hid h2
  clear hr hm hs h1 h2 hf
  go_enter Try.func60, Try.ntmps60
  go_wp2_with (go_at_call 62; refine (floor_any _ s m i _ H1.out H2.out _).mono ?_; rintro e w' ⟨rfl, rfl⟩)
  go_ret
  exact ⟨rfl, rfl⟩

end Go.Proofs.Ytinfjmdcmfpdiaa.Sp

/- spin.part, of, norm, back: what each call gives, as whole numbers. Conditions: the numbers in floats are small. -/
namespace Go.Proofs.Ytinfjmdcmfpdiaa.Sp
open Go.RowKit Go.Proofs.Ytinfjmdcmfpdiaa.Fl
open Ieee (Datum Toward double)

theorem floatOf_fl (n : Int) : floatOfInt .f64 n = fl n := rfl

theorem tmod_cases (n : Int) : n.tmod 257 = n % 257 ∨ n.tmod 257 = n % 257 - 257 := by
  obtain ⟨m, rfl | rfl⟩ := Int.eq_nat_or_neg n
  · left; rfl
  · rw [Int.neg_tmod]
    have : (m : Int).tmod 257 = (m : Int) % 257 := rfl
    omega

set_option maxHeartbeats 400000 in
theorem part_any (n : Int) (w : World) :
    Calls Try.prog 54 #[.int .i64 n] w fun e w' => e = .returned (.float .f64 (fl (n % 257))) ∧ w' = w := by
  have ht := tmod_cases n
  have hb : (n.tmod 257).natAbs < 262144 := by omega
  have hmod : n.tmod 257 % 257 = n % 257 := by omega
  clear ht
  have H := Lib.hid hmod
  have hc := floatOf_fl (n.tmod 257)
  have HB := Lib.hid hb
  clear hb hmod
  go_enter Try.func54, Try.ntmps54
  go_wp2_with (go_at_call 60; refine (rest_any _ HB.out _).mono ?_; rintro e w' ⟨rfl, rfl⟩)
  go_ret
  exact ⟨congrArg (fun z => Ending.returned (.float .f64 (fl z))) H.out, rfl⟩

set_option maxHeartbeats 400000 in
theorem norm_any (x y : Int) (hx : x.natAbs < 262144) (hy : y.natAbs < 262144) (w : World) :
    Calls Try.prog 55 #[.complex .f64 (fl x) (fl y)] w fun e w' => e = .returned (.complex .f64 (fl (x % 257)) (fl (y % 257))) ∧ w' = w := by
  have HX := Lib.hid hx
  have HY := Lib.hid hy
  clear hx hy
  go_enter Try.func55, Try.ntmps55
  go_wp2_with fail
  refine (rest_any _ HX.out _).mono ?_; rintro e w' ⟨rfl, rfl⟩
  go_wp2_with fail
  refine (rest_any _ HY.out _).mono ?_; rintro e w' ⟨rfl, rfl⟩
  go_wp2
  go_ret
  exact ⟨rfl, rfl⟩

set_option maxHeartbeats 400000 in
theorem back_any (x y : Int) (hx : x.natAbs < 262144) (hy : y.natAbs < 262144) (w : World) :
    Calls Try.prog 44 #[.complex .f64 (fl x) (fl y)] w fun e w' => e = .returned (.agg #[.int .i64 x, .int .i64 y]) ∧ Below w.heap.size w w' := by
  have cx := fun w => run_convert_float_int (P := Try.prog) w 84 3 .f64 .i64 (fl x) x (by rw [Try.underlying84]; rfl) Try.underlying3 (toInt_fl (by omega))
  have cy := fun w => run_convert_float_int (P := Try.prog) w 84 3 .f64 .i64 (fl y) y (by rw [Try.underlying84]; rfl) Try.underlying3 (toInt_fl (by omega))
  clear hx hy
  go_enter Try.func44, Try.ntmps44
  go_wp2
  exact bodyPost_ret (v := .agg #[.int .i64 x, .int .i64 y]) (by simp [results, Try.results44, go_sem]) rfl ⟨rfl, (Below.refl _ _).alloc (Nat.le_refl _) _⟩

set_option maxHeartbeats 400000 in
theorem of_any (x y : Int) (w : World) :
    Calls Try.prog 45 #[.agg #[.int .i64 x, .int .i64 y]] w fun e w' => e = .returned (.complex .f64 (fl (x % 257)) (fl (y % 257))) ∧ Below w.heap.size w w' := by
  go_enter Try.func45, Try.ntmps45
  go_wp2_with fail
  go_quiet ((go_at_call 54; exact Calls.quiet_of_same (part_any _ _)))
  go_wp2
  go_ret
  exact ⟨rfl, below_drewN ((Below.refl _ _).alloc (Nat.le_refl _) _) _⟩

end Go.Proofs.Ytinfjmdcmfpdiaa.Sp

/- spin.Turn, Push, Bits: what each call gives, as whole numbers. No conditions on the whirls. -/
namespace Go.Proofs.Ytinfjmdcmfpdiaa.Sp
open Go.RowKit Go.Proofs.Ytinfjmdcmfpdiaa.Fl Go.Proofs.YtinfjmdcmfpdiaaW.PrintWords Go.Proofs.YtinfjmdcmfpdiaaW.PrintLast Go.Proofs.YtinfjmdcmfpdiaaW.PrintMore
set_option linter.unusedVariables false
set_option linter.unusedSimpArgs false

theorem bcell {W w1 : World} (hb : Below W.heap.size W w1) : (∀ b o, b < W.heap.size → w1.cell? ⟨b, o, none⟩ = W.cell? ⟨b, o, none⟩) ∧ (∀ b o, b < W.heap.size → w1.frozen? ⟨b, o, none⟩ = W.frozen? ⟨b, o, none⟩) :=
  ⟨fun b o h => hb.cell (p := ⟨b, o, none⟩) h, fun b o h => hb.frozen (p := ⟨b, o, none⟩) h⟩

theorem mul_bound {x y : Int} (hx : 0 ≤ x ∧ x < 257) (hy : 0 ≤ y ∧ y < 257) : 0 ≤ x * y ∧ x * y ≤ 65536 :=
  ⟨Int.mul_nonneg hx.1 hy.1, Int.mul_le_mul (by omega : x ≤ 256) (by omega : y ≤ 256) hy.1 (by decide)⟩

theorem cmul_fl {a b c d : Int} (ha : 0 ≤ a ∧ a < 257) (hb : 0 ≤ b ∧ b < 257) (hc : 0 ≤ c ∧ c < 257) (hd : 0 ≤ d ∧ d < 257) :
    cMulBits (fl a) (fl b) (fl c) (fl d) = some (fl (a * c - b * d), fl (a * d + b * c)) := by
  have h1 := mul_bound ha hc
  have h2 := mul_bound hb hd
  have h3 := mul_bound ha hd
  have h4 := mul_bound hb hc
  unfold cMulBits
  rw [fl_mul (by omega) (by omega) (by omega) (.inl ⟨ha.1, hc.1⟩), Option.bind_some, fl_mul (by omega) (by omega) (by omega) (.inl ⟨hb.1, hd.1⟩), Option.bind_some, fl_sub (by omega) (by omega), Option.bind_some,
    fl_mul (by omega) (by omega) (by omega) (.inl ⟨ha.1, hd.1⟩), Option.bind_some, fl_mul (by omega) (by omega) (by omega) (.inl ⟨hb.1, hc.1⟩), Option.bind_some, fl_add (by omega) (by omega), Option.bind_some]

theorem cadd_fl {a b c d : Int} (ha : a.natAbs < 131072) (hb : b.natAbs < 131072) (hc : c.natAbs < 131072) (hd : d.natAbs < 131072) :
    cSumBits .add .f64 (fl a) (fl b) (fl c) (fl d) = some (fl (a + c), fl (b + d)) := by
  unfold cSumBits
  rw [fl_add (by omega) (by omega), Option.bind_some, fl_add (by omega) (by omega), Option.bind_some]

/-- The product's parts, as spin.Turn works them out. -/
def turnX (a b c d : Int) : Int := (a % 257) * (c % 257) - (b % 257) * (d % 257)
def turnY (a b c d : Int) : Int := (a % 257) * (d % 257) + (b % 257) * (c % 257)

theorem back_mod (x y : Int) (w : World) :
    Calls Try.prog 44 #[.complex .f64 (fl (x % 257)) (fl (y % 257))] w fun e w' => e = .returned (.agg #[.int .i64 (x % 257), .int .i64 (y % 257)]) ∧ Below w.heap.size w w' :=
  back_any _ _ (by omega) (by omega) w

/-- What two boxed whirls, and a third one's place, are, beside what the call makes. -/
def Two (w : World) (a b c d : Int) (w' : World) : Prop :=
  w'.cell? ⟨w.heap.size, 0, none⟩ = some (.int .i64 a) ∧ w'.cell? ⟨w.heap.size, 1, none⟩ = some (.int .i64 b) ∧ w'.cell? ⟨w.heap.size + 1, 0, none⟩ = some (.int .i64 c) ∧ w'.cell? ⟨w.heap.size + 1, 1, none⟩ = some (.int .i64 d) ∧
  w'.cell? ⟨w.heap.size + 1 + 1, 0, none⟩ = some (.int .i64 0) ∧ w'.cell? ⟨w.heap.size + 1 + 1, 1, none⟩ = some (.int .i64 0) ∧ w'.frozen? ⟨w.heap.size + 1 + 1, 0, none⟩ = false ∧ w'.frozen? ⟨w.heap.size + 1 + 1, 1, none⟩ = false ∧
  w.heap.size + 2 < w'.heap.size ∧ Below w.heap.size w w'
theorem Two.start (w : World) (a b c d : Int) (t : TypeId) : Two w a b c d (((w.alloc (.cells #[.int .i64 a, .int .i64 b] t)).alloc (.cells #[.int .i64 c, .int .i64 d] t)).alloc (.cells #[.int .i64 0, .int .i64 0] t)).drew := by
  refine ⟨by go_simp, by go_simp, by go_simp, by go_simp, by go_simp, by go_simp, by go_simp, by go_simp, by simp, ?_⟩
  exact below_drewN (((Below.refl _ _).alloc (Nat.le_refl _) _).alloc (by simp) _ |>.alloc (by simp; omega) _) 1
theorem Two.step {w W w' : World} {a b c d : Int} (h : Two w a b c d W) (hb : Below W.heap.size W w') : Two w a b c d w' := by
  obtain ⟨h1, h2, h3, h4, h5, h6, h7, h8, h9, h10⟩ := h
  obtain ⟨hc, hf⟩ := bcell hb
  have := hb.size
  exact ⟨(hc _ _ (by omega)).trans h1, (hc _ _ (by omega)).trans h2, (hc _ _ (by omega)).trans h3, (hc _ _ (by omega)).trans h4, (hc _ _ (by omega)).trans h5, (hc _ _ (by omega)).trans h6, (hf _ _ (by omega)).trans h7, (hf _ _ (by omega)).trans h8, by omega, h10.trans (hb.mono (by omega))⟩

set_option maxHeartbeats 1000000 in
theorem bits_any (x y : Int) (w : World) :
    Calls Try.prog 39 #[.agg #[.int .i64 x, .int .i64 y]] w fun e w' => e = .returned (.int .u8 ((x % 257 + 16 * (y % 257)) % 256)) ∧ Below w.heap.size w w' := by
  go_enter Try.func39, Try.ntmps39
  go_wp2_with fail
  refine (of_any _ _ _).mono ?_
  rintro e w1 ⟨rfl, hb1⟩
  have hsz1 := hb1.size
  simp at hsz1
  go_wp2_with fail
  refine (back_mod _ _ _).mono ?_
  rintro e w2 ⟨rfl, hb2⟩
  go_wp2
  go_ret
  refine ⟨rfl, ?_⟩
  exact (((Below.refl _ _).alloc (Nat.le_refl _) _).trans ((hb1.mono (by simp)).trans (hb2.mono (by omega)))).alloc (by have := hb2.size; omega) _

/-- One byte more, as spin.More does it: of a whirl of whole parts. -/
def stepM (z : Int × Int) (c : UInt8) : Int × Int := ((z.1 * 3 - z.2 * 2 + ((c.toNat : Int) + 1)) % 257, (z.1 * 2 + z.2 * 3 + (c.toNat : Int) % 7) % 257)
/-- spin.More. -/
def moreL (x y : Int) (l : List UInt8) : Int × Int := l.foldl stepM (x % 257, y % 257)
theorem stepM_range (z : Int × Int) (c : UInt8) : (0 ≤ (stepM z c).1 ∧ (stepM z c).1 < 257) ∧ 0 ≤ (stepM z c).2 ∧ (stepM z c).2 < 257 := by
  unfold stepM; dsimp only; omega
theorem foldM_range (l : List UInt8) : ∀ z : Int × Int, (0 ≤ z.1 ∧ z.1 < 257) ∧ 0 ≤ z.2 ∧ z.2 < 257 → (0 ≤ (l.foldl stepM z).1 ∧ (l.foldl stepM z).1 < 257) ∧ 0 ≤ (l.foldl stepM z).2 ∧ (l.foldl stepM z).2 < 257 := by
  induction l with
  | nil => exact fun z h => h
  | cons c l ih => exact fun z _ => ih _ (stepM_range z c)
theorem moreL_range (x y : Int) (l : List UInt8) : (0 ≤ (moreL x y l).1 ∧ (moreL x y l).1 < 257) ∧ 0 ≤ (moreL x y l).2 ∧ (moreL x y l).2 < 257 :=
  foldM_range l _ (by dsimp only; omega)
theorem moreL_snoc (x y : Int) (l : List UInt8) (c : UInt8) : moreL x y (l ++ [c]) = stepM (moreL x y l) c := by
  unfold moreL; rw [List.foldl_append]; rfl
theorem take_snoc (s : ByteArray) (k : Nat) (h : k < s.size) : s.data.toList.take (k + 1) = s.data.toList.take k ++ [s[k]] := by
  rw [List.take_succ_eq_append_getElem (by simpa using h)]; rfl
theorem fl1_word : fl 1 = 4607182418800017408 := by decide
theorem fl3_word : fl 3 = 4613937818241073152 := by decide
theorem fl2_word : fl 2 = 4611686018427387904 := by decide
theorem back_of (x y : Int) (hx : 0 ≤ x ∧ x < 257) (hy : 0 ≤ y ∧ y < 257) (w : World) :
    Calls Try.prog 44 #[.complex .f64 (fl x) (fl y)] w fun e w' => e = .returned (.agg #[.int .i64 x, .int .i64 y]) ∧ Below w.heap.size w w' :=
  back_any _ _ (by omega) (by omega) w
def Z1 (x y : Int) (l : List UInt8) : Int := (moreL x y l).1
def Z2 (x y : Int) (l : List UInt8) : Int := (moreL x y l).2
theorem Z_range (x y : Int) (l : List UInt8) : (0 ≤ Z1 x y l ∧ Z1 x y l < 257) ∧ 0 ≤ Z2 x y l ∧ Z2 x y l < 257 := moreL_range x y l

set_option maxHeartbeats 1000000 in
theorem more_any (x y : Int) (s : ByteArray) (hs : s.size ≤ maxLen) (w : World) :
    Calls Try.prog 46 #[.agg #[.int .i64 x, .int .i64 y], .string s] w fun e w' => e = .returned (.agg #[.int .i64 (moreL x y s.data.toList).1, .int .i64 (moreL x y s.data.toList).2]) ∧ Below w.heap.size w w' := by
  unfold maxLen at hs
  have hfo := fun n => floatOf_fl n
  go_enter Try.func46, Try.ntmps46
  go_wp2_with fail
  refine (of_any _ _ _).mono ?_
  rintro e w1 ⟨rfl, hb1⟩
  have hsz1 := hb1.size
  simp at hsz1
  go_wp2_with fail
  go_loop [5, 12] (fun z i => ∃ k : Nat, k ≤ s.size ∧ i = .int .i64 k ∧ z = .complex .f64 (fl (Z1 x y (s.data.toList.take k))) (fl (Z2 x y (s.data.toList.take k)))) (fun _ i => s.size - (intOf i).toNat)
  case atStart => exact ⟨0, Nat.zero_le _, rfl, rfl⟩
  case round =>
    obtain ⟨k, hk, rfl, rfl⟩ := hrel
    obtain ⟨⟨hz1, hz2⟩, hz3, hz4⟩ := Z_range x y (s.data.toList.take k)
    by_cases hlt : k < s.size
    · have hsn := moreL_snoc x y (s.data.toList.take k) s[k]
      rw [← take_snoc s k hlt] at hsn
      have HS1 : Hid (Z1 x y (s.data.toList.take (k + 1)) = (Z1 x y (s.data.toList.take k) * 3 - Z2 x y (s.data.toList.take k) * 2 + ((s[k].toNat : Int) + 1)) % 257) := Lib.hid (congrArg Prod.fst hsn)
      have HS2 : Hid (Z2 x y (s.data.toList.take (k + 1)) = (Z1 x y (s.data.toList.take k) * 2 + Z2 x y (s.data.toList.take k) * 3 + (s[k].toNat : Int) % 7) % 257) := Lib.hid (congrArg Prod.snd hsn)
      clear hsn
      have hby := s[k].toNat_lt
      have f1 := cmul_fl (a := Z1 x y (s.data.toList.take k)) (b := Z2 x y (s.data.toList.take k)) (c := 3) (d := 2) ⟨hz1, hz2⟩ ⟨hz3, hz4⟩ (by decide) (by decide)
      rw [fl3_word, fl2_word] at f1
      have f2 := fl_add (a := (s[k].toNat : Int)) (b := 1) (by omega) (by decide)
      rw [fl1_word] at f2
      have f3 := cadd_fl (a := Z1 x y (s.data.toList.take k) * 3 - Z2 x y (s.data.toList.take k) * 2) (b := Z1 x y (s.data.toList.take k) * 2 + Z2 x y (s.data.toList.take k) * 3) (c := (s[k].toNat : Int) + 1) (d := (s[k].toNat : Int) % 7) (by omega) (by omega) (by omega) (by omega)
      have g1 := fun t w => run_complex_mul (P := Try.prog) w t _ _ _ _ _ _ f1
      have g2 := fun t w => run_float_arith (P := Try.prog) w .add t .f64 _ _ _ f2
      have g3 := fun t w => run_complex_sum (P := Try.prog) w .add (.inl rfl) t .f64 _ _ _ _ _ _ f3
      have HX : Hid ((Z1 x y (s.data.toList.take k) * 3 - Z2 x y (s.data.toList.take k) * 2 + ((s[k].toNat : Int) + 1)).natAbs < 262144) := Lib.hid (by omega)
      have HY : Hid ((Z1 x y (s.data.toList.take k) * 2 + Z2 x y (s.data.toList.take k) * 3 + (s[k].toNat : Int) % 7).natAbs < 262144) := Lib.hid (by omega)
      clear f1 f2 f3 hz1 hz2 hz3 hz4
      go_wp2_with (go_at_call 55; refine (norm_any _ _ HX.out HY.out _).mono ?_; rintro e w' ⟨rfl, rfl⟩)
      go_round
      case rel => exact ⟨k + 1, by omega, by go_num, by rw [HS1.out, HS2.out]⟩
      case measure => simp [intOf]; omega
    · obtain rfl : k = s.size := by omega
      have hall : s.data.toList.take s.size = s.data.toList := List.take_of_length_le (Nat.le_of_eq (by simp))
      have HA := Lib.hid hall
      clear hall
      go_wp2_with fail
      refine (back_of _ _ ⟨hz1, hz2⟩ ⟨hz3, hz4⟩ _).mono ?_
      rintro e w2 ⟨rfl, hb2⟩
      have hsz2 := hb2.size
      obtain ⟨hc2, hf2⟩ := bcell hb2
      obtain ⟨hc1, hf1⟩ := bcell hb1
      have c0 : w2.cell? ⟨w.heap.size + 1, 0, none⟩ = some (.int .i64 0) := (hc2 _ _ (by omega)).trans ((hc1 _ _ (by simp)).trans (by go_simp))
      have c1 : w2.cell? ⟨w.heap.size + 1, 1, none⟩ = some (.int .i64 0) := (hc2 _ _ (by omega)).trans ((hc1 _ _ (by simp)).trans (by go_simp))
      have d0 : w2.frozen? ⟨w.heap.size + 1, 0, none⟩ = false := (hf2 _ _ (by omega)).trans ((hf1 _ _ (by simp)).trans (by go_simp))
      have d1 : w2.frozen? ⟨w.heap.size + 1, 1, none⟩ = false := (hf2 _ _ (by omega)).trans ((hf1 _ _ (by simp)).trans (by go_simp))
      have hB : Below w.heap.size w w2 := (((Below.refl _ _).alloc (Nat.le_refl _) _).alloc (by simp) _).trans ((hb1.mono (by simp; omega)).trans (hb2.mono (by omega)))
      clear hc1 hf1 hc2 hf2
      go_wp2
      refine bodyPost_ret (v := .agg #[.int .i64 (Z1 x y (s.data.toList.take s.size)), .int .i64 (Z2 x y (s.data.toList.take s.size))]) (by simp [results, Try.results46, go_sem, *]) rfl ⟨by rw [HA.out]; rfl, ?_⟩
      exact (hB.setCell (by simp) _).setCell (by simp) _

end Go.Proofs.Ytinfjmdcmfpdiaa.Sp

/- The contracts of spin.Turn, Push, More and Bits in the form in which the printed contracts take a callee: a plain function with an answer, and that the call gives it. -/
namespace Go.Proofs.Ytinfjmdcmfpdiaa.P
open Go.RowKit Go.Proofs.Ytinfjmdcmfpdiaa.Sp

def spin_More.f (a0_0 : Int) (a0_1 : Int) (a1 : ByteArray) : Option (Int × Int) := if a1.size ≤ maxLen then some (moreL a0_0 a0_1 a1.data.toList) else none
theorem spin_More.calls (a0_0 : Int) (a0_1 : Int) (a1 : ByteArray) (r1 : Int) (r2 : Int) (w : World) (h : spin_More.f a0_0 a0_1 a1 = some (r1, r2)) :
    Calls Try.prog 46 #[.agg #[.int .i64 a0_0, .int .i64 a0_1], .string a1] w fun e w' => e = .returned (.agg #[.int .i64 r1, .int .i64 r2]) ∧ Below w.heap.size w w' := by
  unfold spin_More.f at h
  split at h
  · rename_i hs
    have h1 := Option.some.inj h
    have := more_any a0_0 a0_1 a1 hs w
    rw [h1] at this
    exact this
  · cases h

def spin_Bits.f (a0_0 : Int) (a0_1 : Int) : Option Int := some ((a0_0 % 257 + 16 * (a0_1 % 257)) % 256)
theorem spin_Bits.calls (a0_0 : Int) (a0_1 : Int) (r : Int) (w : World) (h : spin_Bits.f a0_0 a0_1 = some r) :
    Calls Try.prog 39 #[.agg #[.int .i64 a0_0, .int .i64 a0_1]] w fun e w' => e = .returned (.int .u8 r) ∧ Below w.heap.size w w' := by
  obtain rfl := Option.some.inj h
  exact bits_any _ _ w

end Go.Proofs.Ytinfjmdcmfpdiaa.P

/- strings.IndexRune of the two bytes 0 and '/', at a rune past ASCII: it is not there. -/
namespace Go.Proofs.Ytinfjmdcmfpdiaa.Rt
open Go.RowKit Go.Lib

theorem iter_below (w : World) (s : ByteArray) (p : Nat) : Below w.heap.size w (w.iter s p) := (Below.refl _ _).alloc (Nat.le_refl _) _

theorem valid_eq (r : Int) : Lib.validRune r = Utf8.valid r := by
  unfold Lib.validRune Utf8.valid
  rw [Bool.eq_iff_iff]
  simp only [decide_eq_true_eq, Bool.or_eq_true, Bool.and_eq_true]
  omega

set_option maxHeartbeats 2000000 in
set_option maxRecDepth 1000000 in
theorem idx_invalid (r : Int) (h0 : 128 ≤ r) (h1 : r ≠ 65533) (hv : Utf8.valid r = false) (w : World) :
    Calls Try.prog 50 #[.string ⟨#[0, 47]⟩, .int .i32 r] w fun e w' => e = .returned (.int .i64 (-1)) ∧ w' = w := by
  have h2 : (r == 65533) = false := beq_eq_false_iff_ne.2 h1
  rw [← valid_eq] at hv
  clear h1
  go_enter Try.func50, Try.ntmps50
  go_wp2_with fail
  refine (Try.utf8_ValidRune r w).mono ?_
  rintro e w' ⟨rfl, hw⟩
  rw [hw, hv]
  go_wp2
  go_ret
  exact ⟨rfl, rfl⟩

set_option maxHeartbeats 2000000 in
set_option maxRecDepth 1000000 in
theorem idx_error (w : World) :
    Calls Try.prog 50 #[.string ⟨#[0, 47]⟩, .int .i32 65533] w fun e w' => e = .returned (.int .i64 (-1)) ∧ Below w.heap.size w w' := by
  go_enter Try.func50, Try.ntmps50
  go_wp2_with fail
  go_loopg [5, 6] 2 (fun g _ _ wx => ∃ i : Nat, i + g = 2 ∧ wx = w.iter ⟨#[0, 47]⟩ i)
  case atStart => exact ⟨0, rfl, rfl⟩
  case round =>
    obtain ⟨i, hig, rfl⟩ := hrel
    cases gk with
    | zero =>
      obtain rfl : i = 2 := by omega
      have hnx := run_next_end (P := Try.prog) w ⟨#[0, 47]⟩ 2
      go_wp2
      go_ret
      exact ⟨rfl, iter_below _ _ _⟩
    | succ g =>
      have hi : i < (⟨#[0, 47]⟩ : ByteArray).size := by show i < 2; omega
      obtain ⟨x, hx⟩ : ∃ x : UInt8, (⟨#[0, 47]⟩ : ByteArray)[i]'hi = x := ⟨_, rfl⟩
      have hx128 : x.toNat < 128 := by
        rw [← hx]
        rcases (show i = 0 ∨ i = 1 by omega) with rfl | rfl
        · show (0 : UInt8).toNat < 128
          decide
        · show (47 : UInt8).toNat < 128
          decide
      have hnx := fun ty => run_next_ascii (P := Try.prog) w ⟨#[0, 47]⟩ i ty hi (by rw [hx]; exact hx128)
      rw [hx] at hnx
      have hne : ((x.toNat : Int) == 65533) = false := beq_eq_false_iff_ne.2 (by omega)
      clear hx
      go_wp2
      go_roundg g
      case measure => omega
      case rel => exact ⟨i + 1, by omega, rfl⟩

theorem quiet_add {P : Program} {f : FuncId} {args : Array Value} {w : World} {a n : Nat} {v : Value} (h : Calls P f args (w.drewN (a + n)) fun e w' => e = .returned v ∧ w' = w.drewN (a + n)) :
    Calls P f args (w.drewN (a + n)) fun e w'' => e = .returned v ∧ ∃ m, w'' = w.drewN (a + m) :=
  h.mono fun _ _ ⟨he, hm⟩ => ⟨he, n, hm⟩

set_option maxHeartbeats 2000000 in
set_option maxRecDepth 1000000 in
theorem idx_two (r : Int) (h0 : 128 ≤ r) (h1 : r ≠ 65533) (hv : Utf8.valid r = true) (x y : UInt8) (hy : 128 ≤ y.toNat) (he : Utf8.encode r = ⟨#[x, y]⟩) (w : World) :
    Calls Try.prog 50 #[.string ⟨#[0, 47]⟩, .int .i32 r] w fun e w' => e = .returned (.int .i64 (-1)) ∧ Below w.heap.size w w' := by
  have h2 : (r == 65533) = false := beq_eq_false_iff_ne.2 h1
  rw [← valid_eq] at hv
  clear h1
  go_enter Try.func50, Try.ntmps50
  go_wp2_with fail
  refine (Try.utf8_ValidRune r w).mono ?_
  rintro e w' ⟨rfl, hw⟩
  rw [hw, hv]
  go_wp2_with fail
  go_step3
  go_wp2_with fail
  refine wp_loop_rounds 1 ?_
  rw [rounds_succ]
  have hxy : ((((⟨#[0, 47]⟩ : ByteArray)[1]'(by decide)).toNat : Int) != (((⟨#[x, y]⟩ : ByteArray)[1]'(by show 1 < 2; decide)).toNat : Int)) = true := by
    show (((47 : UInt8).toNat : Int) != (y.toNat : Int)) = true
    have : (47 : UInt8).toNat = 47 := by decide
    rw [bne_iff_ne, this]; omega
  go_wp2_with fail
  go_step3
  go_wp2_with fail
  go_quiet (fail)
  go_wp2_with fail
  go_quiet ((go_simp; go_at_call 56; exact quiet_add (Try.strings_IndexByte _ _ _)))
  go_wp2_with fail
  rw [Exit.noGoto_ret]
  go_wp2
  rw [Exit.noGoto_ret]
  go_ret
  exact ⟨rfl, below_drewN (Below.refl _ _) _⟩

set_option maxHeartbeats 2000000 in
set_option maxRecDepth 1000000 in
theorem idx_three (r : Int) (h0 : 128 ≤ r) (h1 : r ≠ 65533) (hv : Utf8.valid r = true) (x y z : UInt8) (he : Utf8.encode r = ⟨#[x, y, z]⟩) (w : World) :
    Calls Try.prog 50 #[.string ⟨#[0, 47]⟩, .int .i32 r] w fun e w' => e = .returned (.int .i64 (-1)) ∧ w' = w := by
  have h2 : (r == 65533) = false := beq_eq_false_iff_ne.2 h1
  rw [← valid_eq] at hv
  clear h1
  go_enter Try.func50, Try.ntmps50
  go_wp2_with fail
  refine (Try.utf8_ValidRune r w).mono ?_
  rintro e w' ⟨rfl, hw⟩
  rw [hw, hv]
  go_wp2_with fail
  go_step3
  go_wp2_with fail
  refine wp_loop_rounds 1 ?_
  rw [rounds_succ]
  go_wp2_with fail
  rw [Exit.noGoto_ret]
  go_ret
  exact ⟨rfl, rfl⟩

set_option maxHeartbeats 2000000 in
set_option maxRecDepth 1000000 in
theorem idx_four (r : Int) (h0 : 128 ≤ r) (h1 : r ≠ 65533) (hv : Utf8.valid r = true) (x y z u : UInt8) (he : Utf8.encode r = ⟨#[x, y, z, u]⟩) (w : World) :
    Calls Try.prog 50 #[.string ⟨#[0, 47]⟩, .int .i32 r] w fun e w' => e = .returned (.int .i64 (-1)) ∧ w' = w := by
  have h2 : (r == 65533) = false := beq_eq_false_iff_ne.2 h1
  rw [← valid_eq] at hv
  clear h1
  go_enter Try.func50, Try.ntmps50
  go_wp2_with fail
  refine (Try.utf8_ValidRune r w).mono ?_
  rintro e w' ⟨rfl, hw⟩
  rw [hw, hv]
  go_wp2_with fail
  go_step3
  go_wp2_with fail
  refine wp_loop_rounds 1 ?_
  rw [rounds_succ]
  go_wp2_with fail
  rw [Exit.noGoto_ret]
  go_ret
  exact ⟨rfl, rfl⟩

theorem below_of_same {w w' : World} (h : w' = w) : Below w.heap.size w w' := by subst h; exact Below.refl _ _

/-- strings.IndexRune of 0 and '/', at any rune past ASCII. -/
theorem idx_high (r : Int) (h0 : 128 ≤ r) (w : World) :
    Calls Try.prog 50 #[.string ⟨#[0, 47]⟩, .int .i32 r] w fun e w' => e = .returned (.int .i64 (-1)) ∧ Below w.heap.size w w' := by
  by_cases h1 : r = 65533
  · subst h1; exact idx_error w
  · cases hv : Utf8.valid r with
    | false => exact (idx_invalid r h0 h1 hv w).mono fun e w' h => ⟨h.1, below_of_same h.2⟩
    | true =>
      have hr : r ≤ 0x10FFFF := by
        unfold Utf8.valid at hv
        simp only [Bool.or_eq_true, Bool.and_eq_true, decide_eq_true_eq] at hv
        omega
      have he : Utf8.encode r = (if r.toNat < 0x80 then ⟨#[UInt8.ofNat r.toNat]⟩
        else if r.toNat < 0x800 then ⟨#[UInt8.ofNat (0xC0 + r.toNat / 64), UInt8.ofNat (0x80 + r.toNat % 64)]⟩
        else if r.toNat < 0x10000 then ⟨#[UInt8.ofNat (0xE0 + r.toNat / 4096), UInt8.ofNat (0x80 + r.toNat / 64 % 64), UInt8.ofNat (0x80 + r.toNat % 64)]⟩
        else ⟨#[UInt8.ofNat (0xF0 + r.toNat / 262144), UInt8.ofNat (0x80 + r.toNat / 4096 % 64), UInt8.ofNat (0x80 + r.toNat / 64 % 64), UInt8.ofNat (0x80 + r.toNat % 64)]⟩) := by
        unfold Utf8.encode
        simp only [hv, if_true]
      rw [if_neg (by omega)] at he
      by_cases h2 : r.toNat < 0x800
      · rw [if_pos h2] at he
        refine idx_two r h0 h1 hv _ _ ?_ he w
        have : (UInt8.ofNat (0x80 + r.toNat % 64)).toNat = (0x80 + r.toNat % 64) % 256 := by simp
        omega
      · rw [if_neg h2] at he
        by_cases h3 : r.toNat < 0x10000
        · rw [if_pos h3] at he
          exact (idx_three r h0 h1 hv _ _ _ he w).mono fun e w' h => ⟨h.1, below_of_same h.2⟩
        · rw [if_neg h3] at he
          exact (idx_four r h0 h1 hv _ _ _ _ he w).mono fun e w' h => ⟨h.1, below_of_same h.2⟩

end Go.Proofs.Ytinfjmdcmfpdiaa.Rt

/- strings.ContainsAny of the two bytes 0 and '/', and entry.Right: every text. -/
namespace Go.Proofs.Ytinfjmdcmfpdiaa.Rt
open Go.RowKit Go.Lib

/-- A rune's bytes past its first one are no ASCII, either. -/
theorem get_at' (s : ByteArray) (i : Nat) (h : i < s.size) : s.get! i = s[i]'h := by
  simp [ByteArray.get!, getElem!_pos, h]
  rfl
theorem cont_high (s : ByteArray) (i k : Nat) (h : (decide (i + k < s.size) && ((s.get! (i + k)).toNat / 64 == 2)) = true) : i + k < s.size ∧ ∀ b, s.data.toList[i + k]? = some b → 128 ≤ b.toNat := by
  simp only [Bool.and_eq_true, decide_eq_true_eq, beq_iff_eq] at h
  obtain ⟨h1, h2⟩ := h
  refine ⟨h1, fun b hb => ?_⟩
  rw [get_at' s (i + k) h1] at h2
  have : s.data.toList[i + k]? = some (s[i + k]'h1) := Lib.data_getElem? s (i + k) h1
  rw [this] at hb
  injection hb with hb
  subst hb
  omega

/-- The bytes that a rune takes. -/
def HighTo (s : ByteArray) (i n : Nat) : Prop := i + n ≤ s.size ∧ ∀ j, i ≤ j → j < i + n → ∀ b, s.data.toList[j]? = some b → 128 ≤ b.toNat
theorem HighTo.one {s : ByteArray} {i : Nat} (h : i < s.size) (h0 : 128 ≤ (s[i]'h).toNat) : HighTo s i 1 := by
  refine ⟨by omega, fun j h1 h2 b hb => ?_⟩
  obtain rfl : j = i := by omega
  have : s.data.toList[j]? = some (s[j]'h) := Lib.data_getElem? s j h
  rw [this] at hb
  injection hb with hb
  subst hb
  exact h0
theorem HighTo.succ {s : ByteArray} {i n : Nat} (h : HighTo s i n) (hc : (decide (i + n < s.size) && ((s.get! (i + n)).toNat / 64 == 2)) = true) : HighTo s i (n + 1) := by
  obtain ⟨h1, h2⟩ := cont_high s i n hc
  refine ⟨by omega, fun j h3 h4 b hb => ?_⟩
  by_cases e : j = i + n
  · subst e; exact h2 b hb
  · exact h.2 j h3 (by omega) b hb

theorem decode_bytes (s : ByteArray) (i : Nat) (h : i < s.size) (h0 : 128 ≤ (s[i]'h).toNat) : HighTo s i (Utf8.decode s i).2 := by
  have H1 := HighTo.one h h0
  have hn : ¬ (s.get! (i + 0)).toNat < 128 := by rw [Nat.add_zero, get_at' s i h]; omega
  unfold Utf8.decode
  simp only [hn, if_false]
  split
  · rename_i c
    simp only [Bool.and_eq_true] at c
    have H2 := H1.succ (by simpa using c.2)
    split
    · exact H2
    · exact H1
  · split
    · rename_i c
      simp only [Bool.and_eq_true] at c
      have H2 := H1.succ (by simpa using c.1.2)
      have H3 := H2.succ (by simpa using c.2)
      split
      · exact H3
      · exact H1
    · split
      · rename_i c
        simp only [Bool.and_eq_true] at c
        have H2 := H1.succ (by simpa using c.1.1.2)
        have H3 := H2.succ (by simpa using c.1.2)
        have H4 := H3.succ (by simpa using c.2)
        split
        · exact H4
        · exact H1
      · exact H1

theorem noAny_high {s : ByteArray} {i n : Nat} (h : NoAny s.data.toList [0, 47] i) (hh : HighTo s i n) : NoAny s.data.toList [0, 47] (i + n) := by
  intro j b hj hb
  by_cases e : j < i
  · exact h j b e hb
  · have := hh.2 j (by omega) hj b hb
    have h1 : b ≠ 0 := by rintro rfl; simp at this
    have h2 : b ≠ 47 := by rintro rfl; simp at this
    simp [h1, h2]

theorem iterAt_below {w W : World} {k : Nat} {s : ByteArray} {p : Nat} (h : Below w.heap.size w W) (hk : w.heap.size ≤ k) : Below w.heap.size w (W.iterAt k s p) := by
  refine ⟨h.os, h.tape, h.output, by simpa [World.iterAt] using h.size, fun i hi => ?_⟩
  have hne : k ≠ i := by omega
  show (W.heap.setIfInBounds k (.stringIter s p))[i]? = w.heap[i]?
  rw [Array.getElem?_setIfInBounds_ne hne]
  exact h.block i hi

theorem calls_hit (c : UInt8) (hc : c.toNat < 128) (w : World) : Calls Try.prog 50 #[.string ⟨#[0, 47]⟩, .int .i32 (c.toNat : Int)] w fun e w' => e = .returned (.int .i64 (Lib.indexByte [0, 47] c)) ∧ Below w.heap.size w w' :=
  (Try.strings_IndexRune_ascii ⟨#[0, 47]⟩ (c.toNat : Int) w (by omega) (by omega)).mono fun e w' ⟨he, hw⟩ => ⟨by rw [he]; simp, below_of_same hw⟩

set_option maxHeartbeats 4000000 in
set_option maxRecDepth 1000000 in
/-- s of at most 8 bytes, whichever they are. -/
theorem indexAny_short (s : ByteArray) (h8 : s.size ≤ 8) (w : World) :
    Calls Try.prog 43 #[.string s, .string ⟨#[0, 47]⟩] w fun e w' => e = .returned (.int .i64 (Lib.indexAny s.data.toList [0, 47])) ∧ Below w.heap.size w w' := by
  have h8z : decide ((8 : Int) < (s.size : Int)) = false := decide_eq_false (by omega)
  go_enter Try.func43, Try.ntmps43
  go_wp2_with (go_at_call 51; refine (Try.strings_shouldUseASCIISet _ _).mono ?_; rintro e w' ⟨rfl, hw⟩; rw [hw, h8z])
  go_loopg [9, 10] s.size (fun g _ _ wx => ∃ i : Nat, i + g = s.size ∧ wx.heap[w.heap.size]? = some (.stringIter s i) ∧ Hid (Below w.heap.size w wx) ∧ Hid (NoAny s.data.toList [0, 47] i))
  case atStart => exact ⟨0, by omega, World.iter_heap w s 0, Lib.hid (iter_below w s 0), Lib.hid (NoAny.zero _ _)⟩
  case round =>
    obtain ⟨i, hig, hit, HB, HN⟩ := hrel
    cases gk with
    | zero =>
      obtain rfl : i = s.size := by omega
      have hnx := fun ty => run_next_end_at (P := Try.prog) wr w.heap.size s s.size ty hit (by omega)
      clear hit
      go_wp2
      go_ret
      exact ⟨by rw [Lib.indexAny_none (by rw [← Lib.size_eq]; exact HN.out)]; rfl, HB.out⟩
    | succ g =>
      have hi : i < s.size := by omega
      have hxl : s.data.toList[i]? = some (s[i]'hi) := Lib.data_getElem? s i hi
      by_cases hx128 : (s[i]'hi).toNat < 128
      · have hnx := fun ty => run_next_ascii_at (P := Try.prog) wr w.heap.size s i ty hit hi hx128
        have hit2 := iterAt_heap wr w.heap.size s i (i + 1) hit
        have HB2 : Hid (Below w.heap.size w (wr.iterAt w.heap.size s (i + 1))) := Lib.hid (iterAt_below HB.out (Nat.le_refl _))
        have hsz2 := (Array.getElem?_eq_some_iff.1 hit2).1
        have Hit2 := Lib.hid hit2
        have hsz := HB2.out.size
        generalize (s[i]'hi) = x at hxl hx128 hnx
        have Hx := Lib.hid hxl
        have hcon := Lib.contains_iff_indexByte [0, 47] x
        clear hit hit2 hxl
        cases hin : ([0, 47] : List UInt8).contains x
        · rw [hin] at hcon
          have hlt : ¬ ((0 : Int) ≤ Lib.indexByte [0, 47] x) := of_decide_eq_false hcon.symm
          have Hin := Lib.hid hin
          clear hcon hin
          go_wp2_with (go_at_call 50; refine (calls_hit x hx128 _).mono ?_; rintro e w' ⟨rfl, hb⟩)
          go_roundg g
          case measure => omega
          case rel => exact ⟨i + 1, by omega, (hb.block _ (by omega)).trans Hit2.out, Lib.hid (HB2.out.trans (hb.mono hsz)), Lib.hid (HN.out.succ Hx.out Hin.out)⟩
        · rw [hin] at hcon
          have hge : (0 : Int) ≤ Lib.indexByte [0, 47] x := of_decide_eq_true hcon.symm
          have Hin := Lib.hid hin
          clear hcon hin
          go_wp2_with (go_at_call 50; refine (calls_hit x hx128 _).mono ?_; rintro e w' ⟨rfl, hb⟩)
          go_ret
          exact ⟨by rw [Lib.indexAny_hit HN.out Hx.out Hin.out]; rfl, HB2.out.trans (hb.mono hsz)⟩
      · have hnx := fun ty => run_next_any_at (P := Try.prog) wr w.heap.size s i ty hit hi
        have hd := decode_high s i hi (by omega)
        have hdb := decode_bytes s i hi (by omega)
        generalize Utf8.decode s i = d at hnx hd hdb
        obtain ⟨c, n⟩ := d
        dsimp only at hnx hd hdb
        have hit2 := iterAt_heap wr w.heap.size s i (i + n) hit
        have HB2 : Hid (Below w.heap.size w (wr.iterAt w.heap.size s (i + n))) := Lib.hid (iterAt_below HB.out (Nat.le_refl _))
        have hsz2 := (Array.getElem?_eq_some_iff.1 hit2).1
        have Hit2 := Lib.hid hit2
        have HDB := Lib.hid hdb
        have hsz := HB2.out.size
        obtain ⟨hd1, hd2⟩ := hd
        have hle := hdb.1
        have hneg : ¬ ((0 : Int) ≤ -1) := by decide
        clear hit hit2 hdb hxl hx128
        go_wp2_with (go_at_call 50; refine (idx_high _ (by omega) _).mono ?_; rintro e w' ⟨rfl, hb⟩)
        go_roundg (s.size - (i + n))
        case measure => omega
        case rel => exact ⟨i + n, by omega, (hb.block _ (by omega)).trans Hit2.out, Lib.hid (HB2.out.trans (hb.mono hsz)), Lib.hid (noAny_high HN.out HDB.out)⟩

theorem zero256 : (Try.prog.info? 81).map (fun i => (i.zero, i.size)) = some (some (.agg (Array.replicate 256 (.bool false))), 256) := by kernel_rfl

theorem indexAny_any (s : ByteArray) (hs : s.size < 4294967281) (w : World) :
    Calls Try.prog 43 #[.string s, .string ⟨#[0, 47]⟩] w fun e w' => e = .returned (.int .i64 (Lib.indexAny s.data.toList [0, 47])) ∧ Below w.heap.size w w' := by
  by_cases h8 : s.size ≤ 8
  · exact indexAny_short s h8 w
  · refine (Try.strings_IndexAny_long (zero_of_info zero256).1 s ⟨#[0, 47]⟩ w (by show 2 ≤ 2; omega) (by omega) hs (by show 2 < 4294967281; omega) ?_).mono fun e w' h => ⟨h.1, ?_⟩
    · intro j b hb
      have : b = 0 ∨ b = 47 := by
        have := List.mem_of_getElem? hb
        simpa using this
      rcases this with rfl | rfl <;> decide
    · rw [h.2]; exact ((Below.refl _ _).alloc (Nat.le_refl _) _).alloc (by simp) _

/-- Are 0 or '/' among the bytes? -/
theorem indexAny_ge (l : List UInt8) : (0 ≤ Lib.indexAny l [0, 47]) ↔ (0 ∈ l ∨ 47 ∈ l) := by
  induction l with
  | nil => simp [Lib.indexAny]
  | cons b l ih =>
    unfold Lib.indexAny
    by_cases hb : ([0, 47] : List UInt8).contains b = true
    · rw [if_pos hb]
      have : b = 0 ∨ b = 47 := by simpa using hb
      rcases this with rfl | rfl <;> simp
    · rw [if_neg hb]
      have h1 : ¬ (b = 0 ∨ b = 47) := by simpa using hb
      have h2 : (0 : UInt8) ≠ b := fun h => h1 (.inl h.symm)
      have h3 : (47 : UInt8) ≠ b := fun h => h1 (.inr h.symm)
      simp only [List.mem_cons, h2, h3, false_or]
      rw [← ih]
      have hge := Lib.indexAny_ge [0, 47] l
      by_cases h4 : Lib.indexAny l [0, 47] = -1
      · rw [if_pos (by rw [h4]; rfl), h4]
      · rw [if_neg (by simpa using h4)]; omega

set_option maxHeartbeats 1000000 in
theorem containsAny_any (s : ByteArray) (hs : s.size < 4294967281) (b : Bool) (hb : b = (s.data.toList.contains 0 || s.data.toList.contains 47)) (w : World) :
    Calls Try.prog 34 #[.string s, .string ⟨#[0, 47]⟩] w fun e w' => e = .returned (.bool b) ∧ Below w.heap.size w w' := by
  have h : decide (0 ≤ Lib.indexAny s.data.toList [0, 47]) = b := by
    rw [hb, Bool.eq_iff_iff]
    simp only [decide_eq_true_eq, Bool.or_eq_true, List.contains_iff_mem]
    exact indexAny_ge _
  have H := Lib.hid h
  clear h hb
  go_enter Try.func34, Try.ntmps34
  go_wp2_with (go_at_call 43; refine (indexAny_any s hs _).mono ?_; rintro e w' ⟨rfl, hb⟩)
  go_ret
  exact ⟨congrArg (fun z => Ending.returned (.bool z)) H.out, hb⟩

/-- entry.Right. -/
def rightB (l : List UInt8) : Bool := !l.isEmpty && decide (l.length ≤ 13) && !(l == [46]) && !(l == [46, 46]) && !(l.contains 0 || l.contains 47)

theorem right_nil {s : ByteArray} (h : s.toList = []) : false = rightB s.data.toList := by
  rw [Lib.toList_data] at h; rw [h]; rfl
theorem right_dot {s : ByteArray} (h : s.toList = [46]) : false = rightB s.data.toList := by
  rw [Lib.toList_data] at h; rw [h]; rfl
theorem right_dots {s : ByteArray} (h : s.toList = [46, 46]) : false = rightB s.data.toList := by
  rw [Lib.toList_data] at h; rw [h]; rfl
theorem right_long {s : ByteArray} (h : ¬ s.size ≤ 13) : false = rightB s.data.toList := by
  have : decide (s.data.toList.length ≤ 13) = false := decide_eq_false (by rw [← Lib.size_eq]; exact h)
  unfold rightB
  rw [this, Bool.and_false, Bool.false_and, Bool.false_and, Bool.false_and]
theorem right_rest {s : ByteArray} (h : s.size ≤ 13) (h0 : ¬ s.toList = []) (h1 : ¬ s.toList = [46]) (h2 : ¬ s.toList = [46, 46]) {b : Bool} (hb : b = (s.data.toList.contains 0 || s.data.toList.contains 47)) : (!b) = rightB s.data.toList := by
  rw [Lib.toList_data] at h0 h1 h2
  have e1 : decide (s.data.toList.length ≤ 13) = true := decide_eq_true (by rw [← Lib.size_eq]; exact h)
  unfold rightB
  rw [e1, ← hb, List.isEmpty_eq_false_iff.2 h0, beq_eq_false_iff_ne.2 h1, beq_eq_false_iff_ne.2 h2]
  rfl

theorem ret_bool {a b : Bool} (h : a = b) : Ending.returned (.bool a) = .returned (.bool b) := by rw [h]

set_option maxHeartbeats 1000000 in
theorem right_any (s : ByteArray) (w : World) :
    Calls Try.prog 16 #[.string s] w fun e w' => e = .returned (.bool (rightB s.data.toList)) ∧ Below w.heap.size w w' := by
  by_cases h0 : s.toList = []
  · have h0' : s.toList.isEmpty = true := by rw [h0]; rfl
    have HR := Lib.hid (right_nil h0)
    clear h0
    go_enter Try.func16, Try.ntmps16
    go_wp2_with fail
    go_ret
    exact ⟨ret_bool HR.out, Below.refl _ _⟩
  · have h0' : s.toList.isEmpty = false := List.isEmpty_eq_false_iff.2 h0
    by_cases h : s.size ≤ 13
    · by_cases h1 : s.toList = [46]
      · have HR := Lib.hid (right_dot h1)
        have h1' : (s.toList == [46]) = true := by rw [h1]; rfl
        clear h1 h0
        go_enter Try.func16, Try.ntmps16
        go_wp2_with fail
        go_ret
        exact ⟨ret_bool HR.out, Below.refl _ _⟩
      · have h1' : (s.toList == [46]) = false := beq_eq_false_iff_ne.2 h1
        by_cases h2 : s.toList = [46, 46]
        · have HR := Lib.hid (right_dots h2)
          have h2' : (s.toList == [46, 46]) = true := by rw [h2]; rfl
          clear h2 h1 h0
          go_enter Try.func16, Try.ntmps16
          go_wp2_with fail
          go_ret
          exact ⟨ret_bool HR.out, Below.refl _ _⟩
        · have h2' : (s.toList == [46, 46]) = false := beq_eq_false_iff_ne.2 h2
          obtain ⟨b, hb⟩ : ∃ b, b = (s.data.toList.contains 0 || s.data.toList.contains 47) := ⟨_, rfl⟩
          have hc := fun w => containsAny_any s (by omega) b hb w
          have HR := Lib.hid (right_rest h h0 h1 h2 hb)
          have HC := Lib.hid hc
          clear hc hb h2 h1 h0
          go_enter Try.func16, Try.ntmps16
          go_wp2_with (go_at_call 34; refine (HC.out _).mono ?_; rintro e w' ⟨rfl, hb⟩)
          go_ret
          exact ⟨ret_bool HR.out, hb⟩
    · have HR := Lib.hid (right_long h)
      clear h0
      go_enter Try.func16, Try.ntmps16
      go_wp2_with fail
      go_ret
      exact ⟨ret_bool HR.out, Below.refl _ _⟩

end Go.Proofs.Ytinfjmdcmfpdiaa.Rt

/- The contract of entry.Right in the form in which the printed contracts take a callee. -/
namespace Go.Proofs.Ytinfjmdcmfpdiaa.P
open Go.RowKit
def entry_Right.f (a0 : ByteArray) : Option Bool := some (Rt.rightB a0.data.toList)
theorem entry_Right.calls (a0 : ByteArray) (r : Bool) (w : World) (h : entry_Right.f a0 = some r) :
    Calls Try.prog 16 #[.string a0] w fun e w' => e = .returned (.bool r) ∧ Below w.heap.size w w' := by
  injection h with h
  rw [← h]
  exact Rt.right_any a0 w
end Go.Proofs.Ytinfjmdcmfpdiaa.P

/- Contracts of functions that the statements reach: each call's answer as a plain Lean function. Printed by a program of this session (over the kit's print) out of the translation; Lean checks it. -/
namespace Go.Proofs.Ytinfjmdcmfpdiaa.B
open Go.RowKit Go.Proofs.YtinfjmdcmfpdiaaW.PrintWords Go.Proofs.YtinfjmdcmfpdiaaW.PrintLast Go.Proofs.YtinfjmdcmfpdiaaW.PrintMore
set_option linter.unusedVariables false
set_option linter.unusedSimpArgs false



def errW : Option Int → Value
  | none => .nilIface
  | some c => .iface 0 (.int .i64 c)
theorem errW_none : errW none = .nilIface := rfl
theorem errW_some (c : Int) : errW (some c) = .iface 0 (.int .i64 c) := rfl

-- the values' own types

end Go.Proofs.Ytinfjmdcmfpdiaa.B

/- Contracts of functions that the statements reach: each call's answer as a plain Lean function. Printed by a program of this session (over the kit's print) out of the translation; Lean checks it. -/
namespace Go.Proofs.Ytinfjmdcmfpdiaa.B
open Go.Proofs.Ytinfjmdcmfpdiaa.P Go.RowKit Go.Proofs.YtinfjmdcmfpdiaaW.PrintWords Go.Proofs.YtinfjmdcmfpdiaaW.PrintLast Go.Proofs.YtinfjmdcmfpdiaaW.PrintMore
set_option linter.unusedVariables false
set_option linter.unusedSimpArgs false

-- BY HAND: function 39 (spin_Bits)

-- BY HAND: function 46 (spin_More)

/-! ### spin_Of: function 40 -/
def spin_Of.f (a0 : ByteArray) : Option (Int × Int) := (spin_More.f 1 0 a0).bind fun bt102 => (some (bt102.1, bt102.2))
set_option maxHeartbeats 8000000 in
set_option maxRecDepth 100000 in
theorem spin_Of.calls (a0 : ByteArray) (r1 : Int) (r2 : Int) (w : World) (h : spin_Of.f a0 = some (r1, r2)) :
    Calls Try.prog 40 #[.string a0] w fun e w' => e = .returned (.agg #[.int .i64 r1, .int .i64 r2]) ∧ Below w.heap.size w w' := by
  have hu56 := Try.underlying56
  have HB := Aside0.mk (Below.refl w.heap.size w)
  have H : ((spin_More.f 1 0 a0).bind fun bt102 => (some (bt102.1, bt102.2))) = some (r1, r2) := h
  clear h
  replace H := Option.bind_eq_some_iff.mp H
  obtain ⟨⟨t102, t103⟩, A20, H⟩ := H
  replace H : (some (t102, t103)) = some (r1, r2) := H
  have A2 := Aside0.mk A20
  clear A20
  simp only [Option.some.injEq, Prod.mk.injEq] at H
  obtain ⟨rfl, rfl⟩ := H
  go_enter Try.func40, Try.ntmps40
  go_wp2_with (first | ((with_reducible refine gate_dst (N := 2) rfl ?_); refine box_event ?hg (N := 2) ?hd (cs := #[.int .i64 0, .int .i64 0]) (t := 56) ?hr ?_; (case hd => rfl); (case hg => rfl); (case hr => first | (go_simp; done) | (go_simp; rfl)); intro gb101 hg w3 hbox hb; have n0_ := Aside0.mk (below_step (by repeat (first | (with_reducible first | exact HB.out | apply below_alloc | apply pw_below_drewN | apply below_drew1) | exact HB.out)) hb); have n1_ := Aside0.mk (hbox); have n2_ := Aside0.mk ((by rw [hg]; exact (below_size (by repeat (first | (with_reducible first | exact HB.out | apply below_alloc | apply pw_below_drewN | apply below_drew1) | exact HB.out))) : w.heap.size ≤ gb101)); have n3_ := Aside0.mk ((by rw [hg]; exact (below_size (by repeat (first | (with_reducible first | exact HB.out | apply below_alloc | apply pw_below_drewN | apply below_drew1) | exact HB.out))) : w.heap.size ≤ gb101)); clear HB; have HB := n0_; have BK101 := n1_; have GW101 := n2_; have GE101 := n3_; clear n0_ n1_ n2_ n3_; clear hb hbox hg) | ((with_reducible refine gate_callee (f := 46) rfl ?_); refine goesL_ (some 5) rfl rfl Try.func46 (by kernel_rfl) rfl #[.agg #[.int .i64 1, .int .i64 0], .string a0] rfl (by (try simp only [List.map_toArray, List.map_cons, List.map_nil]); first | done | rfl | (simp only [List.length_drop, List.length_take]; rfl)) ?_; (with_reducible refine (spin_More.calls 1 0 a0 t102 t103 _ A2.out).mono ?_); rintro e w4 ⟨rfl, hb⟩; refine ⟨_, rfl, ?_⟩; have n0_ := Aside0.mk (blk_below (g := gb101) (o := .cells #[.int .i64 0, .int .i64 0] 56 (0, 0)) (by (with_reducible repeat (first | refine blk_drewN ?_ _ | refine blk_drew ?_ | refine blk_alloc ?_ _)); exact BK101.out) hb); have n1_ := Aside0.mk (below_step (by repeat (first | (with_reducible first | exact HB.out | apply below_alloc | apply pw_below_drewN | apply below_drew1 | refine below_set ?_ GE101.out) | exact HB.out)) hb); clear BK101; clear HB; have BK101 := n0_; have HB := n1_; clear n0_ n1_; (try clear hb); (try clear hb2); (try clear hk); (try clear hi); have hcz5_0 : w4.cell? ⟨gb101, 0, none⟩ = some (.int .i64 0) := (blk_cell BK101.out 0).trans rfl; have hcz5_1 : w4.cell? ⟨gb101, 1, none⟩ = some (.int .i64 0) := (blk_cell BK101.out 1).trans rfl; have hfz5_0 := blk_frozen BK101.out 0; have hfz5_1 := blk_frozen BK101.out 1))
  refine bodyPost_ret (results_cell_row rfl _ _ gb101 56 #[.int .i64 t102, .int .i64 t103] (0, 0) _ rfl (by (with_reducible repeat (first | refine blk_drewN ?_ _ | refine blk_drew ?_ | refine blk_alloc ?_ _)); refine blk_put (cs := #[.int .i64 t102, .int .i64 0]) ?_ 1 _ rfl; (with_reducible repeat (first | refine blk_drewN ?_ _ | refine blk_drew ?_ | refine blk_alloc ?_ _)); refine blk_put (cs := #[.int .i64 0, .int .i64 0]) ?_ 0 _ rfl; (with_reducible repeat (first | refine blk_drewN ?_ _ | refine blk_drew ?_ | refine blk_alloc ?_ _)); exact BK101.out) Try.underlying56 rfl (by kernel_rfl)) rfl ?_
  exact ⟨by first | rfl | (simp [errW_none, errW_some] <;> rfl) | (simp [*, errW_none, errW_some] <;> rfl), by repeat (first | (with_reducible first | exact HB.out | apply below_alloc | apply pw_below_drewN | apply below_drew1 | refine below_set ?_ GE101.out) | exact HB.out)⟩

/-! ### entry_bits: function 29 -/
def entry_bits.f (a0 : ByteArray) : Option (Int) := (spin_Of.f a0).bind fun bt104 => ((spin_Bits.f bt104.1 bt104.2).bind fun t106 => (some t106))
set_option maxHeartbeats 8000000 in
set_option maxRecDepth 100000 in
theorem entry_bits.calls (a0 : ByteArray) (r : Int) (w : World) (h : entry_bits.f a0 = some r) :
    Calls Try.prog 29 #[.string a0] w fun e w' => e = .returned (.int .u8 r) ∧ Below w.heap.size w w' := by
  have HB := Aside0.mk (Below.refl w.heap.size w)
  have H : ((spin_Of.f a0).bind fun bt104 => ((spin_Bits.f bt104.1 bt104.2).bind fun t106 => (some t106))) = some r := h
  clear h
  replace H := Option.bind_eq_some_iff.mp H
  obtain ⟨⟨t104, t105⟩, A20, H⟩ := H
  replace H : ((spin_Bits.f t104 t105).bind fun t106 => (some t106)) = some r := H
  have A2 := Aside0.mk A20
  clear A20
  replace H := Option.bind_eq_some_iff.mp H
  obtain ⟨t106, A30, H⟩ := H
  replace H : (some t106) = some r := H
  have A3 := Aside0.mk A30
  clear A30
  obtain rfl := Option.some.inj H
  go_enter Try.func29, Try.ntmps29
  go_wp2_with (first | ((with_reducible refine gate_callee (f := 40) rfl ?_); refine goesL_ (some 4) rfl rfl Try.func40 (by kernel_rfl) rfl #[.string a0] rfl (by (try simp only [List.map_toArray, List.map_cons, List.map_nil]); first | done | rfl | (simp only [List.length_drop, List.length_take]; rfl)) ?_; (with_reducible refine (spin_Of.calls a0 t104 t105 _ A2.out).mono ?_); rintro e w4 ⟨rfl, hb⟩; refine ⟨_, rfl, ?_⟩; have n0_ := Aside0.mk (below_step (by repeat (first | (with_reducible first | exact HB.out | apply below_alloc | apply pw_below_drewN | apply below_drew1) | exact HB.out)) hb); clear HB; have HB := n0_; clear n0_; (try clear hb); (try clear hb2); (try clear hk); (try clear hi)) | ((with_reducible refine gate_callee (f := 39) rfl ?_); refine goesL_ (some 5) rfl rfl Try.func39 (by kernel_rfl) rfl #[.agg #[.int .i64 t104, .int .i64 t105]] rfl (by (try simp only [List.map_toArray, List.map_cons, List.map_nil]); first | done | rfl | (simp only [List.length_drop, List.length_take]; rfl)) ?_; (with_reducible refine (spin_Bits.calls t104 t105 t106 _ A3.out).mono ?_); rintro e w5 ⟨rfl, hb⟩; refine ⟨_, rfl, ?_⟩; have n0_ := Aside0.mk (below_step (by repeat (first | (with_reducible first | exact HB.out | apply below_alloc | apply pw_below_drewN | apply below_drew1) | exact HB.out)) hb); clear HB; have HB := n0_; clear n0_; (try clear hb); (try clear hb2); (try clear hk); (try clear hi)))
  go_ret
  exact ⟨by first | rfl | (simp [errW_none, errW_some] <;> rfl) | (simp [*, errW_none, errW_some] <;> rfl), by repeat (first | (with_reducible first | exact HB.out | apply below_alloc | apply pw_below_drewN | apply below_drew1) | exact HB.out)⟩

end Go.Proofs.Ytinfjmdcmfpdiaa.B

/- entry.Lay's walk. -/
namespace Go.Proofs.Ytinfjmdcmfpdiaa.La
open Go.RowKit Go.Proofs.Ytinfjmdcmfpdiaa.Rt Go.Proofs.Ytinfjmdcmfpdiaa.Sp Go.Proofs.YtinfjmdcmfpdiaaW.PrintWords Go.Proofs.YtinfjmdcmfpdiaaW.PrintLast Go.Proofs.YtinfjmdcmfpdiaaW.PrintMore
set_option linter.unusedVariables false
set_option linter.unusedSimpArgs false

/-- A name's bits. -/
def bitsOf (l : List UInt8) : Int := ((moreL 1 0 l).1 % 257 + 16 * ((moreL 1 0 l).2 % 257)) % 256
theorem bits_any (n : ByteArray) (hn : n.size ≤ maxLen) (w : World) : Calls Try.prog 29 #[.string n] w fun e w' => e = .returned (.int .u8 (bitsOf n.data.toList)) ∧ Below w.heap.size w w' := by
  refine B.entry_bits.calls n _ w ?_
  simp [B.entry_bits.f, B.spin_Of.f, P.spin_More.f, P.spin_Bits.f, hn, bitsOf]

/-- An entry's bytes. -/
def layL (n : ByteArray) (i : Int) : List Int := [(n.size : Int), bitsOf n.data.toList, i] ++ n.data.toList.map (fun b => (b.toNat : Int)) ++ List.replicate (13 - n.size) 0
theorem layL_len (n : ByteArray) (i : Int) (hn : n.size ≤ 13) : (layL n i).length = 16 := by
  have := Lib.size_eq n
  simp only [layL, List.length_append, List.length_map, List.length_replicate, List.length_cons, List.length_nil]
  omega
/-- As copy leaves them. -/
def layX (n : ByteArray) (i : Int) : Array Value := ((([.int .u8 (IntKind.u8.wrap (n.size : Int)), .int .u8 (bitsOf n.data.toList), .int .u8 (IntKind.u8.wrap i), .int .u8 0, .int .u8 0, .int .u8 0, .int .u8 0, .int .u8 0, .int .u8 0, .int .u8 0, .int .u8 0, .int .u8 0, .int .u8 0, .int .u8 0, .int .u8 0, .int .u8 0] : List Value).take 3) ++ Lib.byteCells n.data.toList ++ (([.int .u8 (IntKind.u8.wrap (n.size : Int)), .int .u8 (bitsOf n.data.toList), .int .u8 (IntKind.u8.wrap i), .int .u8 0, .int .u8 0, .int .u8 0, .int .u8 0, .int .u8 0, .int .u8 0, .int .u8 0, .int .u8 0, .int .u8 0, .int .u8 0, .int .u8 0, .int .u8 0, .int .u8 0] : List Value).drop (3 + n.size))).toArray
theorem u8_wrap (x : Int) (h0 : 0 ≤ x) (h1 : x < 256) : IntKind.u8.wrap x = x := by simp [IntKind.wrap, IntKind.signed, IntKind.bits]; omega
theorem layX_eq (n : ByteArray) (i : Int) (hn : n.size ≤ 13) (hi0 : 0 ≤ i) (hi1 : i < 64) : layX n i = (encs (Value.int .u8) (layL n i)).toArray := by
  have t1 : ∀ a b c : Value, ([a, b, c, .int .u8 0, .int .u8 0, .int .u8 0, .int .u8 0, .int .u8 0, .int .u8 0, .int .u8 0, .int .u8 0, .int .u8 0, .int .u8 0, .int .u8 0, .int .u8 0, .int .u8 0] : List Value).take 3 = [a, b, c] := fun _ _ _ => rfl
  have t2 : ∀ a b c : Value, ([a, b, c, .int .u8 0, .int .u8 0, .int .u8 0, .int .u8 0, .int .u8 0, .int .u8 0, .int .u8 0, .int .u8 0, .int .u8 0, .int .u8 0, .int .u8 0, .int .u8 0, .int .u8 0] : List Value).drop (3 + n.size) = List.replicate (13 - n.size) (.int .u8 0) := fun a b c => by
    rw [← List.drop_drop, ← List.drop_replicate]
    rfl
  unfold layX layL encs
  rw [u8_wrap _ (by omega) (by omega), u8_wrap i hi0 (by omega), t1, t2, List.map_append, List.map_append, List.map_replicate, List.map_map]
  rfl
/-- The entry's box, and a row of 16 bytes of which the first three may be written. -/
structure LayS (w : World) (n : ByteArray) (i : Int) (xb gb : Nat) (W : World) : Prop where
  box : W.heap[xb]? = some (.cells #[.string n, .int .i64 i] 23 (0, 0))
  row : ∃ cs : Array Value, W.heap[gb]? = some (.cells cs 5 (0, 0)) ∧ cs.size = 16
  ne : xb ≠ gb
  ge : w.heap.size ≤ gb
  below : Below w.heap.size w W
theorem LayS.step {w W W' : World} {n : ByteArray} {i : Int} {xb gb : Nat} (h : LayS w n i xb gb W) (hb : Below W.heap.size W W') : LayS w n i xb gb W' := by
  obtain ⟨cs, hr, hc⟩ := h.row
  exact ⟨blk_below h.box hb, ⟨cs, blk_below hr hb, hc⟩, h.ne, h.ge, below_step h.below hb⟩
theorem LayS.drew {w W : World} {n : ByteArray} {i : Int} {xb gb : Nat} (h : LayS w n i xb gb W) : LayS w n i xb gb W.drew := ⟨h.box, h.row, h.ne, h.ge, below_drew1 h.below⟩
theorem LayS.cells {w W : World} {n : ByteArray} {i : Int} {xb gb : Nat} (h : LayS w n i xb gb W) : W.cell? ⟨xb, 0, none⟩ = some (.string n) ∧ W.cell? ⟨xb, 1, none⟩ = some (.int .i64 i) :=
  ⟨(blk_cell h.box 0).trans rfl, (blk_cell h.box 1).trans rfl⟩
theorem LayS.put {w W : World} {n : ByteArray} {i : Int} {xb gb : Nat} (h : LayS w n i xb gb W) (k : Nat) (u : Value) (hk : k < 16) : LayS w n i xb gb (W.setCell ⟨gb, k, none⟩ u) := by
  obtain ⟨cs, hr, hc⟩ := h.row
  exact ⟨blk_far h.box h.ne _, ⟨_, blk_set hr k u, by simpa using hc⟩, h.ne, h.ge, below_set h.below h.ge⟩

theorem made16 : madeCells #[.int .u8 0] 16 = #[.int .u8 0, .int .u8 0, .int .u8 0, .int .u8 0, .int .u8 0, .int .u8 0, .int .u8 0, .int .u8 0, .int .u8 0, .int .u8 0, .int .u8 0, .int .u8 0, .int .u8 0, .int .u8 0, .int .u8 0, .int .u8 0] := by
  have h : madeCells #[.int .u8 0] 16 = Array.replicate 16 (.int .u8 0) := by
    apply Array.ext
    · simp [size_madeCells]
    · intro i h1 h2
      simp [madeCells, Nat.mod_one]
  rw [h]
  rfl

set_option maxHeartbeats 4000000 in
set_option maxRecDepth 100000 in
theorem lay_ok (n : ByteArray) (i : Int) (hr : rightB n.data.toList = true) (hn : n.size ≤ maxLen) (hi0 : 0 ≤ i) (hi1 : i < 64) (w : World) :
    Calls Try.prog 11 #[.agg #[.string n, .int .i64 i]] w fun e w' => ∃ v : Value, e = .returned (.tuple #[v, .int .i64 0]) ∧ Kd.R (Kd.int .u8) 5 w' w.heap.size (fun _ => True) v (layL n i) ∧ Below w.heap.size w w' := by
  have hn13 : n.size ≤ 13 := by
    simp only [rightB, Bool.and_eq_true, decide_eq_true_eq] at hr
    have := hr.1.1.1.2
    rw [← Lib.size_eq] at this
    exact this
  have hR := Lib.hid hr
  clear hr
  have hmk : ∀ W : World, (Instr.makeSlice 24 (.int .i64 16) (.int .i64 16)).run Try.prog W = .ok (.slice (some ⟨W.heap.size, 0, none⟩) 16 16) (W.alloc (.cells (madeCells #[.int .u8 0] 16) 5)) := print_make (P := Try.prog) 24 5 .u8 1 Try.underlying24 (by kernel_rfl) (by decide) 16 (by omega)
  have hl1 : decide (i < 0) = false := decide_eq_false (by omega)
  have hl2 : decide (i ≥ 64) = false := decide_eq_false (by omega)
  go_enter Try.func11, Try.ntmps11
  go_wp2_with fail
  have h0 := right_any n (w.alloc (.cells #[.string n, .int .i64 i] 23))
  rw [hR.out] at h0
  refine h0.mono ?_
  clear h0
  rintro e w1 ⟨rfl, hb⟩
  obtain ⟨hbox, hBw⟩ : w1.heap[w.heap.size]? = some (.cells #[.string n, .int .i64 i] 23 (0, 0)) ∧ Below w.heap.size w w1 := ⟨blk_below (blk_new w _) hb, below_step (below_alloc (Below.refl _ _) _) hb⟩
  have c0 : w1.cell? ⟨w.heap.size, 0, none⟩ = some (.string n) := (blk_cell hbox 0).trans rfl
  have c1 : w1.cell? ⟨w.heap.size, 1, none⟩ = some (.int .i64 i) := (blk_cell hbox 1).trans rfl
  replace hbox := Lib.hid hbox
  replace hBw := Lib.hid hBw
  clear hb
  have hrow : Hid ((w1.alloc (.cells (madeCells #[.int .u8 0] 16) 5)).heap[w1.heap.size]? = some (.cells (madeCells #[.int .u8 0] 16) 5 (0, 0))) := Lib.hid (blk_new _ _)
  have hS0 : LayS w n i w.heap.size w1.heap.size (w1.alloc (.cells (madeCells #[.int .u8 0] 16) 5)) :=
    ⟨blk_alloc hbox.out _, ⟨_, hrow.out, by simp [size_madeCells]⟩, by have := blk_lt hbox.out; omega, hBw.out.size, below_alloc hBw.out _⟩
  have hS0 := Lib.hid hS0
  go_wp2_with fail
  clear hmk c0 c1
  have hS0 := hS0.out
  refine start_ (n := 19) (S := LayS w n i w.heap.size w1.heap.size) (ds := []) #[false, false, false, false, false, false, false, false, false, false, false, false, false, false, false, false, false, false, false] (by kernel_rfl) rfl rfl (hS0.drew) (fun hHeld => ?_)
  refine pure_ (i := 0) (N := some 20) (v := ?_) (a' := ?_) #[true, false, false, false, false, false, false, false, false, false, false, false, false, false, false, false, false, false, false] rfl rfl (by kernel_rfl) (fun _ _ _ h => h) (Or.inl ⟨by rfl, ?_⟩) ?_ ?_
  rotate_left
  · intro w'
    go_simp
    with_reducible rfl
  rotate_left
  · simp only [Act.put, List.setIfInBounds_toArray, List.set_cons_zero, List.set_cons_succ, i64_w, i32_w]
    rfl
  refine pure_ (i := 1) (N := some 21) (v := ?_) (a' := ?_) #[true, true, false, false, false, false, false, false, false, false, false, false, false, false, false, false, false, false, false] rfl rfl (by kernel_rfl) (fun _ _ _ h => h) (Or.inl ⟨by rfl, ?_⟩) ?_ ?_
  rotate_left
  · intro w'
    go_simp
    with_reducible rfl
  rotate_left
  · simp only [Act.put, List.setIfInBounds_toArray, List.set_cons_zero, List.set_cons_succ, i64_w, i32_w]
    rfl
  refine pure_ (i := 2) (N := some 22) (v := ?_) (a' := ?_) #[true, true, true, false, false, false, false, false, false, false, false, false, false, false, false, false, false, false, false] rfl rfl (by kernel_rfl) (fun _ _ _ h => h) (Or.inl ⟨by rfl, ?_⟩) ?_ ?_
  rotate_left
  · intro w'
    go_simp
    with_reducible rfl
  rotate_left
  · simp only [Act.put, List.setIfInBounds_toArray, List.set_cons_zero, List.set_cons_succ, i64_w, i32_w]
    rfl
  refine pure_ (i := 3) (N := some 23) (v := ?_) (a' := ?_) #[true, true, true, true, false, false, false, false, false, false, false, false, false, false, false, false, false, false, false] rfl rfl (by kernel_rfl) (fun _ _ _ h => h) (Or.inl ⟨by rfl, ?_⟩) ?_ ?_
  rotate_left
  · intro w'
    go_simp
    with_reducible rfl
  rotate_left
  · simp only [Act.put, List.setIfInBounds_toArray, List.set_cons_zero, List.set_cons_succ, i64_w, i32_w]
    rfl
  refine take_ (i := 4) (N := some 24) (v := ?_) (a' := ?_) #[true, true, true, true, true, false, false, false, false, false, false, false, false, false, false, false, false, false, false] rfl rfl (by kernel_rfl) (fun _ _ _ h => h) (Or.inl ⟨by rfl, ?_⟩) hHeld ?_ ?_
  rotate_left
  · rintro w' hS
    obtain ⟨x0, x1⟩ := hS.cells
    go_simp
    with_reducible rfl
  rotate_left
  · simp only [Act.put, List.setIfInBounds_toArray, List.set_cons_zero, List.set_cons_succ, i64_w, i32_w]
    rfl
  refine pure_ (i := 5) (N := some 25) (v := ?_) (a' := ?_) #[true, true, true, true, true, true, false, false, false, false, false, false, false, false, false, false, false, false, false] rfl rfl (by kernel_rfl) (fun _ _ _ h => h) (Or.inl ⟨by rfl, ?_⟩) ?_ ?_
  rotate_left
  · intro w'
    go_simp
    with_reducible rfl
  rotate_left
  · simp only [Act.put, List.setIfInBounds_toArray, List.set_cons_zero, List.set_cons_succ, i64_w, i32_w]
    rfl
  refine pure_ (i := 6) (N := some 26) (v := ?_) (a' := ?_) #[true, true, true, true, true, true, true, false, false, false, false, false, false, false, false, false, false, false, false] rfl rfl (by kernel_rfl) (fun _ _ _ h => h) (Or.inl ⟨by rfl, ?_⟩) ?_ ?_
  rotate_left
  · intro w'
    go_simp
    with_reducible rfl
  rotate_left
  · simp only [Act.put, List.setIfInBounds_toArray, List.set_cons_zero, List.set_cons_succ, i64_w, i32_w]
    rfl
  refine pure_ (i := 7) (N := some 27) (v := ?_) (a' := ?_) #[true, true, true, true, true, true, true, true, false, false, false, false, false, false, false, false, false, false, false] rfl rfl (by kernel_rfl) (fun _ _ _ h => h) (Or.inl ⟨by rfl, ?_⟩) ?_ ?_
  rotate_left
  · intro w'
    go_simp
    with_reducible rfl
  rotate_left
  · simp only [Act.put, List.setIfInBounds_toArray, List.set_cons_zero, List.set_cons_succ, i64_w, i32_w]
    rfl
  refine take_ (i := 8) (N := some 28) (v := ?_) (a' := ?_) #[true, true, true, true, true, true, true, true, true, false, false, false, false, false, false, false, false, false, false] rfl rfl (by kernel_rfl) (fun _ _ _ h => h) (Or.inl ⟨by rfl, ?_⟩) hHeld ?_ ?_
  rotate_left
  · rintro w' hS
    obtain ⟨x0, x1⟩ := hS.cells
    go_simp
    with_reducible rfl
  rotate_left
  · simp only [Act.put, List.setIfInBounds_toArray, List.set_cons_zero, List.set_cons_succ, i64_w, i32_w]
    rfl
  refine pure_ (i := 10) (N := some 30) (v := ?_) (a' := ?_) #[true, true, true, true, true, true, true, true, true, false, true, false, false, false, false, false, false, false, false] rfl rfl (by kernel_rfl) (fun _ _ _ h => h) (Or.inl ⟨by rfl, ?_⟩) ?_ ?_
  rotate_left
  · intro w'
    go_simp
    with_reducible rfl
  rotate_left
  · simp only [Act.put, List.setIfInBounds_toArray, List.set_cons_zero, List.set_cons_succ, i64_w, i32_w]
    rfl
  refine take_ (i := 11) (N := some 31) (v := ?_) (a' := ?_) #[true, true, true, true, true, true, true, true, true, false, true, true, false, false, false, false, false, false, false] rfl rfl (by kernel_rfl) (fun _ _ _ h => h) (Or.inl ⟨by rfl, ?_⟩) hHeld ?_ ?_
  rotate_left
  · rintro w' hS
    obtain ⟨x0, x1⟩ := hS.cells
    go_simp
    with_reducible rfl
  rotate_left
  · simp only [Act.put, List.setIfInBounds_toArray, List.set_cons_zero, List.set_cons_succ, i64_w, i32_w]
    rfl
  refine pure_ (i := 12) (N := some 32) (v := ?_) (a' := ?_) #[true, true, true, true, true, true, true, true, true, false, true, true, true, false, false, false, false, false, false] rfl rfl (by kernel_rfl) (fun _ _ _ h => h) (Or.inl ⟨by rfl, ?_⟩) ?_ ?_
  rotate_left
  · intro w'
    go_simp
    with_reducible rfl
  rotate_left
  · simp only [Act.put, List.setIfInBounds_toArray, List.set_cons_zero, List.set_cons_succ, i64_w, i32_w]
    rfl
  refine one_ (i := 9) (N := some 29) #[true, true, true, true, true, true, true, true, true, true, true, true, true, false, false, false, false, false, false] rfl rfl (by kernel_rfl) (by decide) (fun K hK => ?_)
  refine goes_ Try.func29 (by kernel_rfl) rfl #[.string n] (by rfl) rfl rfl (by (try simp only [List.map_toArray, List.map_cons, List.map_nil]); first | done | rfl) ?_
  with_reducible refine (bits_any n hn _).mono ?_
  rintro e w4 ⟨rfl, hb4⟩
  refine ⟨_, rfl, ?_⟩
  refine hK.out _ _ (hHeld.step hb4) (fun hHeld => ?_)
  clear hK K
  refine norm_ (a' := ?_) ?_ ?_
  rotate_left
  · show Act.put _ (some 29) _ = _
    simp only [Act.put, List.setIfInBounds_toArray, List.set_cons_zero, List.set_cons_succ, i64_w, i32_w]
    rfl
  refine pure_ (i := 13) (N := some 33) (v := ?_) (a' := ?_) #[true, true, true, true, true, true, true, true, true, true, true, true, true, true, false, false, false, false, false] rfl rfl (by kernel_rfl) (fun _ _ _ h => h) (Or.inl ⟨by rfl, ?_⟩) ?_ ?_
  rotate_left
  · intro w'
    go_simp
    with_reducible rfl
  rotate_left
  · simp only [Act.put, List.setIfInBounds_toArray, List.set_cons_zero, List.set_cons_succ, i64_w, i32_w]
    rfl
  have hrow2 := blk_below (w := World.drew _) hrow.out hb4
  rw [made16] at hrow2
  clear hb4 hrow
  refine one_ (i := 14) (N := none) #[true, true, true, true, true, true, true, true, true, true, true, true, true, true, true, false, false, false, false] rfl rfl (by kernel_rfl) (by decide) (fun K hK => ?_)
  have hf := blk_frozen hrow2 0
  have hc := blk_cell hrow2 0
  refine skip_ (w1 := ?_) (by rfl) rfl ?_ ?_
  rotate_left
  · go_simp
    rfl
  have hrow3 := blk_put hrow2 0 (.int .u8 (IntKind.u8.wrap (n.size : Int))) rfl
  refine hK.out _ _ (hHeld.put 0 _ (by omega)) (fun hHeld => ?_)
  clear hK K hf hc hrow2
  refine pure_ (i := 15) (N := some 34) (v := ?_) (a' := ?_) #[true, true, true, true, true, true, true, true, true, true, true, true, true, true, true, true, false, false, false] rfl rfl (by kernel_rfl) (fun _ _ _ h => h) (Or.inl ⟨by rfl, ?_⟩) ?_ ?_
  rotate_left
  · intro w'
    go_simp
    with_reducible rfl
  rotate_left
  · simp only [Act.put, List.setIfInBounds_toArray, List.set_cons_zero, List.set_cons_succ, i64_w, i32_w]
    rfl
  refine one_ (i := 16) (N := none) #[true, true, true, true, true, true, true, true, true, true, true, true, true, true, true, true, true, false, false] rfl rfl (by kernel_rfl) (by decide) (fun K hK => ?_)
  have hf := blk_frozen hrow3 1
  have hc := blk_cell hrow3 1
  refine skip_ (w1 := ?_) (by rfl) rfl ?_ ?_
  rotate_left
  · go_simp
    rfl
  have hrow4 := blk_put hrow3 1 (.int .u8 (bitsOf n.data.toList)) rfl
  refine hK.out _ _ (hHeld.put 1 _ (by omega)) (fun hHeld => ?_)
  clear hK K hf hc hrow3
  refine pure_ (i := 17) (N := some 35) (v := ?_) (a' := ?_) #[true, true, true, true, true, true, true, true, true, true, true, true, true, true, true, true, true, true, false] rfl rfl (by kernel_rfl) (fun _ _ _ h => h) (Or.inl ⟨by rfl, ?_⟩) ?_ ?_
  rotate_left
  · intro w'
    go_simp
    with_reducible rfl
  rotate_left
  · simp only [Act.put, List.setIfInBounds_toArray, List.set_cons_zero, List.set_cons_succ, i64_w, i32_w]
    rfl
  refine one_ (i := 18) (N := none) #[true, true, true, true, true, true, true, true, true, true, true, true, true, true, true, true, true, true, true] rfl rfl (by kernel_rfl) (by decide) (fun K hK => ?_)
  have hf := blk_frozen hrow4 2
  have hc := blk_cell hrow4 2
  refine skip_ (w1 := ?_) (by rfl) rfl ?_ ?_
  rotate_left
  · go_simp
    rfl
  have hrow5 := blk_put hrow4 2 (.int .u8 (IntKind.u8.wrap i)) rfl
  refine hK.out _ _ (hHeld.put 2 _ (by omega)) (fun hHeld => ?_)
  clear hK K hf hc hrow4
  refine done_ (by kernel_rfl) ?_
  replace hrow5 := Lib.hid hrow5
  go_wp2_with fail
  obtain ⟨cs, hcs, hcp⟩ : ∃ cs : Array Value, cs = layX n i ∧ ∀ W : World, W.heap[w1.heap.size]? = some (.cells (((#[.int .u8 0, .int .u8 0, .int .u8 0, .int .u8 0, .int .u8 0, .int .u8 0, .int .u8 0, .int .u8 0, .int .u8 0, .int .u8 0, .int .u8 0, .int .u8 0, .int .u8 0, .int .u8 0, .int .u8 0, .int .u8 0].setIfInBounds 0 (.int .u8 (IntKind.u8.wrap (n.size : Int)))).setIfInBounds 1 (.int .u8 (bitsOf n.data.toList))).setIfInBounds 2 (.int .u8 (IntKind.u8.wrap i))) 5 (0, 0)) →
      (Builtin.copy_ #[24, 9] 3 #[.slice (some ⟨w1.heap.size, 3, none⟩) 13 13, .string n]).run Try.prog W = .ok (goInt n.size) (W.setRow w1.heap.size cs) :=
    ⟨_, rfl, fun W h => Lib.run_copy_row_string W 24 9 3 5 w1.heap.size 3 13 13 n _ 5 Try.underlying24 (by kernel_rfl) h hn13 (by simp; omega)⟩
  replace hcs := Lib.hid hcs
  replace hcp := Lib.hid hcp
  refine start_ (n := 5) (S := LayS w n i w.heap.size w1.heap.size) (ds := [4]) #[false, false, false, false, false] (by kernel_rfl) rfl rfl (hHeld.drew) (fun hHeld => ?_)
  refine pure_ (i := 0) (N := some 36) (v := ?_) (a' := ?_) #[true, false, false, false, false] rfl rfl (by kernel_rfl) (fun _ _ _ h => h) (Or.inl ⟨by rfl, ?_⟩) ?_ ?_
  rotate_left
  · intro w'
    go_simp
    with_reducible rfl
  rotate_left
  · simp only [Act.put, List.setIfInBounds_toArray, List.set_cons_zero, List.set_cons_succ, i64_w, i32_w]
    rfl
  refine pure_ (i := 1) (N := some 37) (v := ?_) (a' := ?_) #[true, true, false, false, false] rfl rfl (by kernel_rfl) (fun _ _ _ h => h) (Or.inl ⟨by rfl, ?_⟩) ?_ ?_
  rotate_left
  · intro w'
    go_simp
    with_reducible rfl
  rotate_left
  · simp only [Act.put, List.setIfInBounds_toArray, List.set_cons_zero, List.set_cons_succ, i64_w, i32_w]
    rfl
  refine pure_ (i := 2) (N := some 38) (v := ?_) (a' := ?_) #[true, true, true, false, false] rfl rfl (by kernel_rfl) (fun _ _ _ h => h) (Or.inl ⟨by rfl, ?_⟩) ?_ ?_
  rotate_left
  · intro w'
    go_simp
    with_reducible rfl
  rotate_left
  · simp only [Act.put, List.setIfInBounds_toArray, List.set_cons_zero, List.set_cons_succ, i64_w, i32_w]
    rfl
  refine take_ (i := 3) (N := some 39) (v := ?_) (a' := ?_) #[true, true, true, true, false] rfl rfl (by kernel_rfl) (fun _ _ _ h => h) (Or.inl ⟨by rfl, ?_⟩) hHeld ?_ ?_
  rotate_left
  · rintro w' hS
    obtain ⟨x0, x1⟩ := hS.cells
    go_simp
    with_reducible rfl
  rotate_left
  · simp only [Act.put, List.setIfInBounds_toArray, List.set_cons_zero, List.set_cons_succ, i64_w, i32_w]
    rfl
  refine last_ (i := 4) (N := some 40) #[true, true, true, true, true] rfl rfl (by kernel_rfl) (by decide) (fun K hK => ?_)
  rw [if_pos (by rfl)]
  unfold Oper.wp
  go_simp
  rw [hcp.out _ (blk_drew hrow5.out)]
  simp only [Result.andThen]
  rw [Oper.upon_value]
  have hrow6 := Lib.hid (setRow_heap _ w1.heap.size _ cs _ _ (blk_drew hrow5.out))
  have hB6 := Lib.hid (below_setRow hHeld.below hBw.out.size cs)
  clear hrow5 hHeld
  refine hK.out _ _ ?_
  clear hK K
  refine done_ (by kernel_rfl) ?_
  go_wp2_with fail
  go_ret2
  have hx : cs = (encs (Value.int .u8) (layL n i)).toArray := hcs.out.trans (layX_eq n i hn13 hi0 hi1)
  have hlen := layL_len n i hn13
  have h6 := hrow6.out
  have h7 := hB6.out
  rw [u8_wrap _ (by omega) (by omega), u8_wrap i hi0 (by omega)] at h6 h7
  refine ⟨_, rfl, Kd.R_of_own ⟨by simp [encs], .inr ⟨w1.heap.size, 16, cs, by rw [hlen]; rfl, hBw.out.size, h6, by omega, by decide, by rw [hx]; simp [encs, hlen], by rw [hx]; exact List.take_of_length_le (by simp [encs])⟩⟩ (fun _ _ => trivial), h7⟩
end Go.Proofs.Ytinfjmdcmfpdiaa.La

/- entry.Lay: every entry. -/
namespace Go.Proofs.Ytinfjmdcmfpdiaa.La
open Go.RowKit Go.Proofs.Ytinfjmdcmfpdiaa.Rt Go.Proofs.Ytinfjmdcmfpdiaa.Sp Go.Proofs.YtinfjmdcmfpdiaaW.PrintWords Go.Proofs.YtinfjmdcmfpdiaaW.PrintLast Go.Proofs.YtinfjmdcmfpdiaaW.PrintMore
set_option linter.unusedVariables false
set_option linter.unusedSimpArgs false

set_option maxHeartbeats 2000000 in
set_option maxRecDepth 100000 in
theorem lay_name (n : ByteArray) (i : Int) (hr : rightB n.data.toList = false) (w : World) :
    Calls Try.prog 11 #[.agg #[.string n, .int .i64 i]] w fun e w' => ∃ v : Value, e = .returned (.tuple #[v, .int .i64 120]) ∧ Kd.R (Kd.int .u8) 5 w' w.heap.size (fun _ => True) v [] ∧ Below w.heap.size w w' := by
  have hR := Lib.hid hr
  clear hr
  go_enter Try.func11, Try.ntmps11
  go_wp2_with fail
  have h0 := right_any n (w.alloc (.cells #[.string n, .int .i64 i] 23))
  rw [hR.out] at h0
  refine h0.mono ?_
  clear h0
  rintro e w1 ⟨rfl, hb⟩
  have hBw := Lib.hid (below_step (below_alloc (Below.refl _ _) _) hb)
  clear hb
  go_wp2_with fail
  go_ret2
  exact ⟨_, rfl, Kd.R_nil _ _ _ _ _, hBw.out⟩

set_option maxHeartbeats 2000000 in
set_option maxRecDepth 100000 in
theorem lay_arg (n : ByteArray) (i : Int) (hr : rightB n.data.toList = true) (hi : i < 0 ∨ 64 ≤ i) (w : World) :
    Calls Try.prog 11 #[.agg #[.string n, .int .i64 i]] w fun e w' => ∃ v : Value, e = .returned (.tuple #[v, .int .i64 1]) ∧ Kd.R (Kd.int .u8) 5 w' w.heap.size (fun _ => True) v [] ∧ Below w.heap.size w w' := by
  have hR := Lib.hid hr
  clear hr
  go_enter Try.func11, Try.ntmps11
  go_wp2_with fail
  have h0 := right_any n (w.alloc (.cells #[.string n, .int .i64 i] 23))
  rw [hR.out] at h0
  refine h0.mono ?_
  clear h0
  rintro e w1 ⟨rfl, hb⟩
  obtain ⟨hbox, hBw⟩ : w1.heap[w.heap.size]? = some (.cells #[.string n, .int .i64 i] 23 (0, 0)) ∧ Below w.heap.size w w1 := ⟨blk_below (blk_new w _) hb, below_step (below_alloc (Below.refl _ _) _) hb⟩
  have c1 : w1.cell? ⟨w.heap.size, 1, none⟩ = some (.int .i64 i) := (blk_cell hbox 1).trans rfl
  replace hBw := Lib.hid hBw
  clear hb hbox
  by_cases h : i < 0
  · have hl1 : decide (i < 0) = true := decide_eq_true h
    go_wp2_with fail
    go_ret2
    exact ⟨_, rfl, Kd.R_nil _ _ _ _ _, hBw.out⟩
  · have hl1 : decide (i < 0) = false := decide_eq_false h
    have hl2 : decide (i ≥ 64) = true := decide_eq_true (by omega)
    go_wp2_with fail
    go_ret2
    exact ⟨_, rfl, Kd.R_nil _ _ _ _ _, hBw.out⟩
/-- What entry.Lay answers. -/
def layA (n : ByteArray) (i : Int) : List Int × Int := if rightB n.data.toList = true then (if 0 ≤ i ∧ i < 64 then (layL n i, 0) else ([], 1)) else ([], 120)
theorem lay_any (n : ByteArray) (i : Int) (w : World) :
    Calls Try.prog 11 #[.agg #[.string n, .int .i64 i]] w fun e w' => ∃ v : Value, e = .returned (.tuple #[v, .int .i64 (layA n i).2]) ∧ Kd.R (Kd.int .u8) 5 w' w.heap.size (fun _ => True) v (layA n i).1 ∧ Below w.heap.size w w' := by
  unfold layA
  by_cases hr : rightB n.data.toList = true
  · rw [if_pos hr]
    by_cases hi : 0 ≤ i ∧ i < 64
    · rw [if_pos hi]
      have hn : n.size ≤ maxLen := by
        have h := hr
        simp only [rightB, Bool.and_eq_true, decide_eq_true_eq] at h
        have := h.1.1.1.2
        rw [← Lib.size_eq] at this
        unfold maxLen
        omega
      exact lay_ok n i hr hn hi.1 hi.2 w
    · rw [if_neg hi]; exact lay_arg n i hr (by omega) w
  · rw [if_neg hr]; exact lay_name n i (Bool.eq_false_iff.2 hr) w
end Go.Proofs.Ytinfjmdcmfpdiaa.La

/- The contract of entry.Lay in the form in which the printed contracts take a callee. -/
namespace Go.Proofs.Ytinfjmdcmfpdiaa.P
open Go.RowKit Go.Proofs.YtinfjmdcmfpdiaaW.PrintWords
def entry_Lay.f (a0_0 : ByteArray) (a0_1 : Int) : Option (List Int × Int) := some (La.layA a0_0 a0_1)
theorem entry_Lay.calls (a0_0 : ByteArray) (a0_1 : Int) (r1 : List Int) (r2 : Int) (w : World) (h : entry_Lay.f a0_0 a0_1 = some (r1, r2)) :
    Calls Try.prog 11 #[.agg #[.string a0_0, .int .i64 a0_1]] w fun e w' => ∃ v0_ : Value, e = .returned (.tuple #[v0_, .int .i64 r2]) ∧ Kd.R (Kd.int .u8) 5 w' w.heap.size (fun _ => True) v0_ r1 ∧ Below w.heap.size w w' := by
  injection h with h
  have := La.lay_any a0_0 a0_1 w
  rw [h] at this
  exact this
end Go.Proofs.Ytinfjmdcmfpdiaa.P

/- entry.free: whether sixteen zeros. One printed walk, mended where the slice may be nil. -/
namespace Go.Proofs.Ytinfjmdcmfpdiaa.P
open Go.RowKit Go.Proofs.YtinfjmdcmfpdiaaW.PrintWords Go.Proofs.YtinfjmdcmfpdiaaW.PrintLast Go.Proofs.YtinfjmdcmfpdiaaW.PrintMore
set_option linter.unusedVariables false
set_option linter.unusedSimpArgs false
theorem info_u8 : (Try.prog.info? 5).map (fun i => (i.zero, i.size, i.bytes)) = some (some (.int .u8 0), 1, 1) := by kernel_rfl
def entry_free.f (l0 : List Int) : Option (Bool) := if 16 ≤ 281474976710656 then (some ((strOfNums l0).toList == (strOfNums (List.replicate 16 0)).toList)) else (none)
set_option maxHeartbeats 8000000 in
set_option maxRecDepth 100000 in
theorem entry_free.calls (A0 : Option Addr) (c0 : Nat) (l0 : List Int) (r : Bool) (w : World) (hr0 : Kd.C (Kd.int .u8) w A0 l0.length l0) (hc0 : l0.length ≤ c0) (h : entry_free.f l0 = some r) :
    Calls Try.prog 33 #[.slice A0 l0.length c0] w fun e w' => e = .returned (.bool r) ∧ Below w.heap.size w w' := by
  have HR0 := Aside0.mk hr0
  have HC0 := Aside0.mk hc0
  clear hr0 hc0
  have HB := Aside0.mk (Below.refl w.heap.size w)
  have H : (if 16 ≤ 281474976710656 then (some ((strOfNums l0).toList == (strOfNums (List.replicate 16 0)).toList)) else (none)) = some r := h
  clear h
  by_cases c2 : 16 ≤ 281474976710656
  · rw [if_pos c2] at H
    have c2b0 := eq_true c2
    have c2b1 : decide (16 ≤ 281474976710656) = true := decide_eq_true c2
    clear c2
    obtain ⟨y101, hy101⟩ : ∃ y_ : List Int, y_ = (List.replicate 16 0) := ⟨_, rfl⟩
    replace H : (some ((strOfNums l0).toList == (strOfNums y101).toList)) = some r := by first | (rw [hy101]; with_reducible exact H) | (have H2_ := (Option.bind_some _ _).symm.trans H; rw [hy101]; with_reducible exact H2_) | (have H2_ := (Option.bind_some _ _).symm.trans H; with_reducible exact H2_) | with_reducible exact H | (rw [hy101]; exact H) | exact H
    have Ny101 := Aside0.mk hy101
    clear hy101
    obtain rfl := Option.some.inj H
    go_enter Try.func33, Try.ntmps33
    try go_wp2
    have n0_ := Aside0.mk (below_drew1 HB.out)
    clear HB
    have HB := n0_
    clear n0_
    refine start_ (n := 6) (S := fun w' => Aside0 (Kd.C (Kd.int .u8) w' A0 l0.length l0)) (ds := []) #[false, false, false, false, false, false] (by kernel_rfl) rfl rfl (Aside0.mk (Kd.C_below HR0.out HB.out)) (fun hHeld => ?_)
    refine pure_ (i := 0) (N := some 3) (v := ?_) (a' := ?_) #[true, false, false, false, false, false] rfl rfl (by kernel_rfl) (fun _ _ _ h => h) (Or.inl ⟨by rfl, ?_⟩) ?_ ?_
    rotate_left
    · intro w'
      go_simp
      with_reducible rfl
    rotate_left
    · simp only [Act.put, List.setIfInBounds_toArray, List.set_cons_zero, List.set_cons_succ, i64_w, i32_w]
      rfl
    refine take_ (i := 1) (N := some 4) (v := ?_) (a' := ?_) #[true, true, false, false, false, false] rfl rfl (by kernel_rfl) (fun _ _ _ h => h) (Or.inl ⟨by rfl, ?_⟩) hHeld ?_ ?_
    rotate_left
    · intro w' hS
      have hcv4 := Kd.C_string (P := Try.prog) (A := A0) (c := c0) Try.underlying24 Try.underlying5 Try.underlying9 hS.out
      go_simp
      with_reducible rfl
    rotate_left
    · simp only [Act.put, List.setIfInBounds_toArray, List.set_cons_zero, List.set_cons_succ, i64_w, i32_w]
      rfl
    refine one_ (i := 2) (N := some 5) #[true, true, true, false, false, false] rfl rfl (by kernel_rfl) (by decide) (fun K hK => ?_)
    refine Kd.R_make_step (Kd.int .u8) _ 5 (by rfl) (N := 5) rfl 24 _ _ rfl 16 rfl rfl Try.underlying24 (.int .u8 0) 1 info_u8 rfl (by decide) (by omega) 0 (ok := fun _ => True) (okp := fun _ => True) rfl (fun _ hk => hk) trivial (by omega) (by omega) (Below.refl _ _) (Nat.le_refl _) ?_
    intro v102 w5 ho6 hb hg_ hnew_
    clear hg_ hnew_
    (first | rw [← Ny101.out] at ho6 | (simp only [Int.reduceToNat] at ho6; rw [← Ny101.out] at ho6))
    have n0_ := Aside0.mk (Kd.R_lower ho6 (below_size (by repeat (first | (with_reducible first | exact HB.out | apply below_alloc | apply pw_below_drewN | apply below_drew1) | exact HB.out))))
    have n1_ := Aside0.mk (below_step (by repeat (first | (with_reducible first | exact HB.out | apply below_alloc | apply pw_below_drewN | apply below_drew1) | exact HB.out)) hb)
    clear HB
    have HO103 := n0_
    have HB := n1_
    clear n0_ n1_
    clear hb ho6
    refine hK.out _ _ (Aside0.mk (Kd.C_below HR0.out HB.out)) (fun hHeld => ?_)
    clear hK K
    refine norm_ (a' := ?_) ?_ ?_
    rotate_left
    · show Act.put _ (some 5) _ = _
      simp only [Act.put, List.setIfInBounds_toArray, List.set_cons_zero, List.set_cons_succ, i64_w, i32_w]
      rfl
    refine one_ (i := 3) (N := some 6) #[true, true, true, true, false, false] rfl rfl (by kernel_rfl) (by decide) (fun K hK => ?_)
    have hcv7 := own_string (P := Try.prog) Try.underlying24 Try.underlying5 Try.underlying9 (Kd.own_of_R HO103.out)
    refine value_ (w1 := ?_) (v := ?_) (by rfl) rfl ?_ ?_
    rotate_left 2
    · go_simp
      constructor
      · rfl
      · rfl
    clear hcv7
    refine hK.out _ _ (Aside0.mk (Kd.C_below HR0.out HB.out)) (fun hHeld => ?_)
    clear hK K
    refine norm_ (a' := ?_) ?_ ?_
    rotate_left
    · show Act.put _ (some 6) _ = _
      simp only [Act.put, List.setIfInBounds_toArray, List.set_cons_zero, List.set_cons_succ, i64_w, i32_w]
      rfl
    refine pure_ (i := 4) (N := some 7) (v := ?_) (a' := ?_) #[true, true, true, true, true, false] rfl rfl (by kernel_rfl) (fun _ _ _ h => h) (Or.inl ⟨by rfl, ?_⟩) ?_ ?_
    rotate_left
    · intro w'
      go_simp
      with_reducible rfl
    rotate_left
    · simp only [Act.put, List.setIfInBounds_toArray, List.set_cons_zero, List.set_cons_succ, i64_w, i32_w]
      rfl
    refine pure_ (i := 5) (N := some 2) (v := ?_) (a' := ?_) #[true, true, true, true, true, true] rfl rfl (by kernel_rfl) (fun _ _ _ h => h) (Or.inl ⟨by rfl, ?_⟩) ?_ ?_
    rotate_left
    · intro w'
      go_simp
      with_reducible rfl
    rotate_left
    · simp only [Act.put, List.setIfInBounds_toArray, List.set_cons_zero, List.set_cons_succ, i64_w, i32_w]
      rfl
    refine done_ (by kernel_rfl) ?_
    try go_wp2
    go_ret
    exact ⟨by first | rfl | (simp [errW_none, errW_some] <;> rfl) | (simp [*, errW_none, errW_some] <;> rfl), by repeat (first | (with_reducible first | exact HB.out | apply below_alloc | apply pw_below_drewN | apply below_drew1) | exact HB.out)⟩
  · rw [if_neg c2] at H
    exact absurd H (by simp)
end Go.Proofs.Ytinfjmdcmfpdiaa.P

/- Contracts of functions that the statements reach: each call's answer as a plain Lean function. Printed by a program of this session (over the kit's print) out of the translation; Lean checks it. -/
namespace Go.Proofs.Ytinfjmdcmfpdiaa.C
open Go.RowKit Go.Proofs.YtinfjmdcmfpdiaaW.PrintWords Go.Proofs.YtinfjmdcmfpdiaaW.PrintLast Go.Proofs.YtinfjmdcmfpdiaaW.PrintMore
set_option linter.unusedVariables false
set_option linter.unusedSimpArgs false



def errW : Option Int → Value
  | none => .nilIface
  | some c => .iface 0 (.int .i64 c)
theorem errW_none : errW none = .nilIface := rfl
theorem errW_some (c : Int) : errW (some c) = .iface 0 (.int .i64 c) := rfl

theorem info5 : (Try.prog.info? 5).map (fun i => (i.zero, i.size, i.bytes)) = some (some (.int .u8 0), 1, 1) := by kernel_rfl
-- the values' own types

end Go.Proofs.Ytinfjmdcmfpdiaa.C

/- Contracts of functions that the statements reach: each call's answer as a plain Lean function. Printed by a program of this session (over the kit's print) out of the translation; Lean checks it. -/
namespace Go.Proofs.Ytinfjmdcmfpdiaa.C
open Go.Proofs.Ytinfjmdcmfpdiaa.P Go.RowKit Go.Proofs.YtinfjmdcmfpdiaaW.PrintWords Go.Proofs.YtinfjmdcmfpdiaaW.PrintLast Go.Proofs.YtinfjmdcmfpdiaaW.PrintMore
set_option linter.unusedVariables false
set_option linter.unusedSimpArgs false

/-! ### moatref01_Fill: function 32 -/
mutual
def moatref01_Fill.j0 : Nat → List Int → Int → Bool → Option (List Int × Int)
  | 0, _, _, _ => none
  | k + 1, x0, x1, x16 => if x16 = true then (some (([] : List Int), 4)) else ((some (([] : List Int) : List Int)).bind fun y101 => (if y101.length + x0.length < 140737488355328 then (moatref01_Fill.l0 k x1 (y101 ++ x0)) else (none)))
def moatref01_Fill.l0 : Nat → Int → List Int → Option (List Int × Int)
  | 0, _, _ => none
  | k + 1, x1, x6 => if (x6.length : Int) < x1 then (if x6.length < 140737488355328 then (moatref01_Fill.l0 k x1 (x6 ++ [0])) else (none)) else (some (x6, 0))
end
def moatref01_Fill.f (k : Nat) (l0 : List Int) (a1 : Int) : Option (List Int × Int) := if a1 < 0 then (some (([] : List Int), 1)) else (if (l0.length : Int) > a1 then (moatref01_Fill.j0 k l0 a1 true) else (moatref01_Fill.j0 k l0 a1 (decide (a1 > 4096))))
theorem moatref01_Fill.mono_l : ∀ k, (∀ y0 y1 y2, LeO (moatref01_Fill.j0 k y0 y1 y2) (moatref01_Fill.j0 (k + 1) y0 y1 y2)) ∧ (∀ y0 y1, LeO (moatref01_Fill.l0 k y0 y1) (moatref01_Fill.l0 (k + 1) y0 y1))
  | 0 => ⟨fun _ _ _ r h => by simp [moatref01_Fill.j0] at h, fun _ _ r h => by simp [moatref01_Fill.l0] at h⟩
  | k + 1 => by
    obtain ⟨ih0, ih1⟩ := moatref01_Fill.mono_l k
    refine ⟨?_, ?_⟩
    · intro y0 y1 y2
      unfold moatref01_Fill.j0
      repeat' first
      | (with_reducible exact ih0 _ _ _)
      | (with_reducible exact ih1 _ _)
      | (with_reducible exact LeO.refl _)
      | (with_reducible exact LeO.none _)
      | (with_reducible refine LeO.ite ?_ ?_)
      | (with_reducible refine LeO.bind ?_ (fun _ => ?_))
      | exact ih0 _ _ _
      | exact ih1 _ _
      | exact LeO.none _
      | refine LeO.ite ?_ ?_
      | refine LeO.bind ?_ (fun _ => ?_)
    · intro y0 y1
      unfold moatref01_Fill.l0
      repeat' first
      | (with_reducible exact ih0 _ _ _)
      | (with_reducible exact ih1 _ _)
      | (with_reducible exact LeO.refl _)
      | (with_reducible exact LeO.none _)
      | (with_reducible refine LeO.ite ?_ ?_)
      | (with_reducible refine LeO.bind ?_ (fun _ => ?_))
      | exact ih0 _ _ _
      | exact ih1 _ _
      | exact LeO.none _
      | refine LeO.ite ?_ ?_
      | refine LeO.bind ?_ (fun _ => ?_)
theorem moatref01_Fill.mono : ∀ a0 a1 k, LeO (moatref01_Fill.f k a0 a1) (moatref01_Fill.f (k + 1) a0 a1) := by
  intro a0 a1 k
  obtain ⟨ih0, ih1⟩ := moatref01_Fill.mono_l k
  unfold moatref01_Fill.f
  repeat' first
      | (with_reducible exact ih0 _ _ _)
      | (with_reducible exact ih1 _ _)
      | (with_reducible exact LeO.refl _)
      | (with_reducible exact LeO.none _)
      | (with_reducible refine LeO.ite ?_ ?_)
      | (with_reducible refine LeO.bind ?_ (fun _ => ?_))
      | exact ih0 _ _ _
      | exact ih1 _ _
      | exact LeO.none _
      | refine LeO.ite ?_ ?_
      | refine LeO.bind ?_ (fun _ => ?_)
set_option maxHeartbeats 8000000 in
set_option maxRecDepth 100000 in
theorem moatref01_Fill.calls (k : Nat) (A0 : Option Addr) (c0 : Nat) (l0 : List Int) (a1 : Int) (r1 : List Int) (r2 : Int) (w : World) (hr0 : Kd.C (Kd.int .u8) w A0 l0.length l0) (hc0 : l0.length ≤ c0) (h : moatref01_Fill.f k l0 a1 = some (r1, r2)) :
    Calls Try.prog 32 #[.slice A0 l0.length c0, .int .i64 a1] w fun e w' => ∃ v0_ : Value, e = .returned (.tuple #[v0_, .int .i64 r2]) ∧ Kd.R (Kd.int .u8) 5 w' w.heap.size (fun _ => True) v0_ r1 ∧ Below w.heap.size w w' := by
  have HR0 := Aside0.mk hr0
  have HC0 := Aside0.mk hc0
  clear hr0 hc0
  have HB := Aside0.mk (Below.refl w.heap.size w)
  have H : (if a1 < 0 then (some (([] : List Int), 1)) else (if (l0.length : Int) > a1 then (moatref01_Fill.j0 k l0 a1 true) else (moatref01_Fill.j0 k l0 a1 (decide (a1 > 4096))))) = some (r1, r2) := h
  clear h
  by_cases c3 : a1 < 0
  · rw [if_pos c3] at H
    have c3b0 : decide (a1 < 0) = true := decide_eq_true c3
    clear c3
    simp only [Option.some.injEq, Prod.mk.injEq] at H
    obtain ⟨rfl, rfl⟩ := H
    go_enter Try.func32, Try.ntmps32
    go_wp2
    go_ret2
    exact ⟨_, by first | rfl | (simp [errW_none, errW_some] <;> rfl) | (simp [*, errW_none, errW_some] <;> rfl), by first | exact Kd.R_nil _ _ _ _ _ | exact Kd.N_nil _ _ _ _ _ | exact Kd.V_nil _ _ _ _ _ | exact Kd.Q_nil _ _ _ _ _ | exact Kd.S_nil _ _ _ _ _, by repeat (first | (with_reducible first | exact HB.out | apply below_alloc | apply pw_below_drewN | apply below_drew1) | exact HB.out)⟩
  · rw [if_neg c3] at H
    have c3b0 : decide (a1 < 0) = false := decide_eq_false c3
    clear c3
    have HC4 := Aside0.mk H
    clear H
    go_enter Try.func32, Try.ntmps32
    go_upto_region 3 with (fail)
    go_cut [16] (fun v16 wc => ∃ (kq : Nat) (x16_3 : Bool), v16 = .bool x16_3 ∧ Aside0 (moatref01_Fill.j0 kq l0 a1 x16_3 = some (r1, r2)) ∧ Aside0 (kq ≤ k) ∧ Aside0 (Below w.heap.size w wc))
    case first =>
      have H := HC4.out
      clear HC4
      by_cases c5 : (l0.length : Int) > a1
      · rw [if_pos c5] at H
        have c5b0 : decide (a1 < (l0.length : Int)) = true := decide_eq_true c5
        clear c5
        (first | rw [c5b0] | (simp only [i64_w, i32_w]; rw [c5b0]) | skip)
        have H' := Aside0.mk H
        clear H
        go_wp2
        go_meet
        case rel => exact ⟨_, (true), (by first | rfl | (simp; done) | (simp [*]; done)), H', ⟨by first | omega | exact Nat.le_refl _⟩, ⟨by repeat (first | (with_reducible first | exact HB.out | apply below_alloc | apply pw_below_drewN | apply below_drew1) | exact HB.out)⟩⟩
      · rw [if_neg c5] at H
        have c5b0 : decide (a1 < (l0.length : Int)) = false := decide_eq_false c5
        clear c5
        (first | rw [c5b0] | (simp only [i64_w, i32_w]; rw [c5b0]) | skip)
        have H' := Aside0.mk H
        clear H
        go_wp2
        go_meet
        case rel => exact ⟨_, (decide (a1 > 4096)), (by first | rfl | (simp; done) | (simp [*]; done)), H', ⟨by first | omega | exact Nat.le_refl _⟩, ⟨by repeat (first | (with_reducible first | exact HB.out | apply below_alloc | apply pw_below_drewN | apply below_drew1) | exact HB.out)⟩⟩
    case rest =>
      clear HC4
      try clear p2
      try clear c3
      try clear c3b0
      try clear c5
      try clear c5b0
      obtain ⟨kq, x16_3, rfl, HA, HJ3, HB⟩ := hcut
      cases kq with
      | zero => exact absurd HA.out (by simp [moatref01_Fill.j0])
      | succ kj3 =>
        have H := HA.out
        clear HA
        simp only [moatref01_Fill.j0] at H
        by_cases c6 : x16_3 = true
        · subst c6
          have H1 : (some (([] : List Int), 4)) = some (r1, r2) := by rw [if_pos rfl] at H; exact H
          clear H
          have H := H1
          clear H1
          simp only [Option.some.injEq, Prod.mk.injEq] at H
          obtain ⟨rfl, rfl⟩ := H
          go_wp2
          go_ret2
          exact ⟨_, by first | rfl | (simp [errW_none, errW_some] <;> rfl) | (simp [*, errW_none, errW_some] <;> rfl), by first | exact Kd.R_nil _ _ _ _ _ | exact Kd.N_nil _ _ _ _ _ | exact Kd.V_nil _ _ _ _ _ | exact Kd.Q_nil _ _ _ _ _ | exact Kd.S_nil _ _ _ _ _, by repeat (first | (with_reducible first | exact HB.out | apply below_alloc | apply pw_below_drewN | apply below_drew1) | exact HB.out)⟩
        · replace c6 := Bool.eq_false_iff.mpr c6
          subst c6
          have H1 : ((some (([] : List Int) : List Int)).bind fun y101 => (if y101.length + l0.length < 140737488355328 then (moatref01_Fill.l0 kj3 a1 (y101 ++ l0)) else (none))) = some (r1, r2) := by rw [if_neg (show ¬ (false = true) by decide)] at H; exact H
          clear H
          have H := H1
          clear H1
          obtain ⟨y101, hy101⟩ : ∃ y_ : List Int, y_ = (([] : List Int)) := ⟨_, rfl⟩
          replace H : (if y101.length + l0.length < 140737488355328 then (moatref01_Fill.l0 kj3 a1 (y101 ++ l0)) else (none)) = some (r1, r2) := by first | (rw [hy101]; with_reducible exact H) | (have H2_ := (Option.bind_some _ _).symm.trans H; rw [hy101]; with_reducible exact H2_) | (have H2_ := (Option.bind_some _ _).symm.trans H; with_reducible exact H2_) | with_reducible exact H | (rw [hy101]; exact H) | exact H
          have Ny101 := Aside0.mk hy101
          clear hy101
          by_cases c7 : y101.length + l0.length < 140737488355328
          · rw [if_pos c7] at H
            have LMc7 := Aside0.mk c7
            clear c7
            obtain ⟨y104, hy104⟩ : ∃ y_ : List Int, y_ = (y101 ++ l0) := ⟨_, rfl⟩
            replace H : (moatref01_Fill.l0 kj3 a1 y104) = some (r1, r2) := by first | (rw [hy104]; with_reducible exact H) | (have H2_ := (Option.bind_some _ _).symm.trans H; rw [hy104]; with_reducible exact H2_) | (have H2_ := (Option.bind_some _ _).symm.trans H; with_reducible exact H2_) | with_reducible exact H | (rw [hy104]; exact H) | exact H
            have Ny104 := Aside0.mk hy104
            clear hy104
            have H' := Aside0.mk H
            clear H
            go_wp2_with (first | ((with_reducible refine gate_dst (N := 17) rfl ?_); refine Kd.R_lit (Kd.int .u8) _ 5 ?hg (N := 17) ?hd (xs := ([] : List Int)) (inner := []) (ok := fun _ => True) (okp := fun _ => True) ?hr ?hp (fun _ hk => hk) trivial (Below.refl _ _) (Nat.le_refl _) (by simp) ?_; (case hd => rfl); (case hg => rfl); (case hr => first | (go_simp; done) | (go_simp; rfl)); (case hp => exact (Reps.none _ _)); intro v102 w8 ho9 hb hg_ hnew_; clear hg_ hnew_; (first | rw [← Ny101.out] at ho9 | (simp only [Int.reduceToNat] at ho9; rw [← Ny101.out] at ho9)); have n0_ := Aside0.mk (Kd.R_lower ho9 (below_size (by repeat (first | (with_reducible first | exact HB.out | apply below_alloc | apply pw_below_drewN | apply below_drew1) | exact HB.out)))); have n1_ := Aside0.mk (below_step (by repeat (first | (with_reducible first | exact HB.out | apply below_alloc | apply pw_below_drewN | apply below_drew1) | exact HB.out)) hb); clear HB; have HO103 := n0_; have HB := n1_; clear n0_ n1_; clear hb ho9) | ((with_reducible refine gate_builtin (b := .append) (xs := #[.tmp 17, .tmp 18]) rfl ?_); at_builtin; refine Kd.R_append_rows (Kd.int .u8) (w0 := w) w.heap.size rfl (.tmp 17) (.tmp 18) 24 5 (.int .u8 0) 1 rfl Try.underlying24 info5 rfl (by decide) (by omega) v102 y101 l0 _ _ _ (fun _ => True) (fun _ => False) rfl rfl ?aO ?aR (fun _ _ h => h) (fun _ h => h.elim) ?aF ?aB ?aS ?aL ?_; (case aR => repeat (first | exact (Kd.C_below HR0.out HB.out) | (with_reducible refine Kd.C_alloc ?_ _) | (with_reducible refine Kd.C_drewN ?_ _) | (with_reducible refine Kd.C_drew ?_))); (case aB => exact (by repeat (first | (with_reducible first | exact HB.out | apply below_alloc | apply pw_below_drewN | apply below_drew1) | exact HB.out))); (case aF => exact (fun _ _ => trivial)); (case aO => exact (by (with_reducible repeat (first | apply Kd.R_alloc | apply Kd.R_drewN | apply Kd.R_drew)); exact HO103.out)); (case aS => exact (below_size (by repeat (first | (with_reducible first | exact HB.out | apply below_alloc | apply pw_below_drewN | apply below_drew1) | exact HB.out)))); (case aL => have := LMc7.out; omega); intro v105 w10 ho hb hg hat; rw [← Ny104.out] at ho; have n0_ := Aside0.mk (hb); have n1_ := Aside0.mk (ho); clear HB; clear HO103; have HB := n0_; have HO106 := n1_; clear n0_ n1_; clear ho hb hg hat))
            go_loopg [6] kj3 (fun kq v6 w' => ∃ (x6_2 : List Int), Aside0 (moatref01_Fill.l0 kq a1 x6_2 = some (r1, r2)) ∧ Aside0 (kq ≤ kj3) ∧ Aside0 (Kd.R (Kd.int .u8) 5 w' w.heap.size (fun _ => True) v6 x6_2) ∧ Aside0 (Below w.heap.size w w'))
            case atStart => exact ⟨(y104), H', ⟨Nat.le_refl _⟩, ⟨by (with_reducible repeat (first | apply Kd.R_alloc | apply Kd.R_drewN | apply Kd.R_drew)); exact HO106.out⟩, ⟨by repeat (first | (with_reducible first | exact HB.out | apply below_alloc | apply pw_below_drewN | apply below_drew1) | exact HB.out)⟩⟩
            case round =>
              clear H'
              try clear p2
              try clear c3
              try clear c3b0
              try clear c5
              try clear c5b0
              try clear c6
              try clear c7
              try clear p2
              obtain ⟨x6_2, HA, HK2, HO_6, HB⟩ := hrel
              cases gk with
              | zero => exact absurd HA.out (by simp [moatref01_Fill.l0])
              | succ k2 =>
                have H := HA.out
                clear HA
                simp only [moatref01_Fill.l0] at H
                by_cases c11 : (x6_2.length : Int) < a1
                · rw [if_pos c11] at H
                  have c11b0 : decide ((x6_2.length : Int) < a1) = true := decide_eq_true c11
                  clear c11
                  by_cases c12 : x6_2.length < 140737488355328
                  · rw [if_pos c12] at H
                    have LMc12 := Aside0.mk c12
                    clear c12
                    obtain ⟨y107, hy107⟩ : ∃ y_ : List Int, y_ = (x6_2 ++ [0]) := ⟨_, rfl⟩
                    replace H : (moatref01_Fill.l0 k2 a1 y107) = some (r1, r2) := by first | (rw [hy107]; with_reducible exact H) | (have H2_ := (Option.bind_some _ _).symm.trans H; rw [hy107]; with_reducible exact H2_) | (have H2_ := (Option.bind_some _ _).symm.trans H; with_reducible exact H2_) | with_reducible exact H | (rw [hy107]; exact H) | exact H
                    have Ny107 := Aside0.mk hy107
                    clear hy107
                    have H' := Aside0.mk H
                    clear H
                    obtain ⟨Ao13, co13, eo13⟩ := Kd.R_slice HO_6.out
                    subst eo13
                    go_wp2_with (first | ((with_reducible refine gate_builtin (b := .append) (xs := #[.tmp 24, .tmp 25]) rfl ?_); at_builtin; refine Kd.R_append (Kd.int .u8) (w0 := w) w.heap.size rfl (.tmp 24) (.tmp 25) 24 5 (.int .u8 0) 1 rfl Try.underlying24 info5 rfl (by decide) (by omega) (.slice Ao13 x6_2.length co13) x6_2 0 [.int .u8 0] (fun _ => True) (fun _ => False) rfl rfl ?aP (fun _ hk => hk.elim) ?aF ?aO ?aB ?aS ?aL ?_; (case aP => exact rfl); (case aB => exact (by repeat (first | (with_reducible first | exact HB.out | apply below_alloc | apply pw_below_drewN | apply below_drew1) | exact HB.out))); (case aF => exact (fun _ _ => trivial)); (case aO => exact (by (with_reducible repeat (first | apply Kd.R_alloc | apply Kd.R_drewN | apply Kd.R_drew)); exact HO_6.out)); (case aS => exact (below_size (by repeat (first | (with_reducible first | exact HB.out | apply below_alloc | apply pw_below_drewN | apply below_drew1) | exact HB.out)))); (case aL => have := LMc12.out; omega); intro v108 w14 ho hb hg hat; rw [← Ny107.out] at ho; have n0_ := Aside0.mk (hb); have n1_ := Aside0.mk (ho); clear HB; clear HO_6; have HB := n0_; have HO109 := n1_; clear n0_ n1_; clear ho hb hg hat))
                    go_roundg k2
                    case measure => have := HJ3.out; have := HK2.out; omega
                    case rel => exact ⟨(y107), H', ⟨by have := HJ3.out; have := HK2.out; omega⟩, ⟨by (with_reducible repeat (first | apply Kd.R_alloc | apply Kd.R_drewN | apply Kd.R_drew)); exact HO109.out⟩, ⟨by repeat (first | (with_reducible first | exact HB.out | apply below_alloc | apply pw_below_drewN | apply below_drew1) | exact HB.out)⟩⟩
                  · rw [if_neg c12] at H
                    exact absurd H (by simp)
                · rw [if_neg c11] at H
                  have c11b0 : decide ((x6_2.length : Int) < a1) = false := decide_eq_false c11
                  clear c11
                  simp only [Option.some.injEq, Prod.mk.injEq] at H
                  obtain ⟨rfl, rfl⟩ := H
                  obtain ⟨Ao15, co15, eo15⟩ := Kd.R_slice HO_6.out
                  subst eo15
                  go_wp2
                  go_ret2
                  exact ⟨_, by first | rfl | (simp [errW_none, errW_some] <;> rfl) | (simp [*, errW_none, errW_some] <;> rfl), by (with_reducible repeat (first | apply Kd.R_alloc | apply Kd.R_drewN | apply Kd.R_drew)); exact HO_6.out, by repeat (first | (with_reducible first | exact HB.out | apply below_alloc | apply pw_below_drewN | apply below_drew1) | exact HB.out)⟩
          · rw [if_neg c7] at H
            exact absurd H (by simp)

/-! ### moatref12_Right: function 17 -/
mutual
def moatref12_Right.j0 : Nat → ByteArray → Bool → Option (Bool)
  | 0, _, _ => none
  | k + 1, x0, x18 => if x18 = true then (some false) else (moatref12_Right.l0 k x0 0)
def moatref12_Right.l0 : Nat → ByteArray → Int → Option (Bool)
  | 0, _, _ => none
  | k + 1, x0, x3 => if x3 < (x0.size : Int) then (if 0 ≤ x3 then (if (bt x0 x3) = 0 then (some false) else (if (bt x0 x3) = 47 then (some false) else (moatref12_Right.l0 k x0 (wrap64 (x3 + 1))))) else (none)) else (some true)
end
def moatref12_Right.f (k : Nat) (a0 : ByteArray) : Option (Bool) := if a0.toList = ([] : List UInt8) then (moatref12_Right.j0 k a0 true) else (if (a0.size : Int) > 13 then (moatref12_Right.j0 k a0 true) else (if a0.toList = ([46] : List UInt8) then (moatref12_Right.j0 k a0 true) else (moatref12_Right.j0 k a0 (a0.toList == ([46, 46] : List UInt8)))))
theorem moatref12_Right.mono_l : ∀ k, (∀ y0 y1, LeO (moatref12_Right.j0 k y0 y1) (moatref12_Right.j0 (k + 1) y0 y1)) ∧ (∀ y0 y1, LeO (moatref12_Right.l0 k y0 y1) (moatref12_Right.l0 (k + 1) y0 y1))
  | 0 => ⟨fun _ _ r h => by simp [moatref12_Right.j0] at h, fun _ _ r h => by simp [moatref12_Right.l0] at h⟩
  | k + 1 => by
    obtain ⟨ih0, ih1⟩ := moatref12_Right.mono_l k
    refine ⟨?_, ?_⟩
    · intro y0 y1
      unfold moatref12_Right.j0
      repeat' first
      | (with_reducible exact ih0 _ _)
      | (with_reducible exact ih1 _ _)
      | (with_reducible exact LeO.refl _)
      | (with_reducible exact LeO.none _)
      | (with_reducible refine LeO.ite ?_ ?_)
      | (with_reducible refine LeO.bind ?_ (fun _ => ?_))
      | exact ih0 _ _
      | exact ih1 _ _
      | exact LeO.none _
      | refine LeO.ite ?_ ?_
      | refine LeO.bind ?_ (fun _ => ?_)
    · intro y0 y1
      unfold moatref12_Right.l0
      repeat' first
      | (with_reducible exact ih0 _ _)
      | (with_reducible exact ih1 _ _)
      | (with_reducible exact LeO.refl _)
      | (with_reducible exact LeO.none _)
      | (with_reducible refine LeO.ite ?_ ?_)
      | (with_reducible refine LeO.bind ?_ (fun _ => ?_))
      | exact ih0 _ _
      | exact ih1 _ _
      | exact LeO.none _
      | refine LeO.ite ?_ ?_
      | refine LeO.bind ?_ (fun _ => ?_)
theorem moatref12_Right.mono : ∀ a0 k, LeO (moatref12_Right.f k a0) (moatref12_Right.f (k + 1) a0) := by
  intro a0 k
  obtain ⟨ih0, ih1⟩ := moatref12_Right.mono_l k
  unfold moatref12_Right.f
  repeat' first
      | (with_reducible exact ih0 _ _)
      | (with_reducible exact ih1 _ _)
      | (with_reducible exact LeO.refl _)
      | (with_reducible exact LeO.none _)
      | (with_reducible refine LeO.ite ?_ ?_)
      | (with_reducible refine LeO.bind ?_ (fun _ => ?_))
      | exact ih0 _ _
      | exact ih1 _ _
      | exact LeO.none _
      | refine LeO.ite ?_ ?_
      | refine LeO.bind ?_ (fun _ => ?_)
set_option maxHeartbeats 8000000 in
set_option maxRecDepth 100000 in
theorem moatref12_Right.calls (k : Nat) (a0 : ByteArray) (r : Bool) (w : World) (h : moatref12_Right.f k a0 = some r) :
    Calls Try.prog 17 #[.string a0] w fun e w' => e = .returned (.bool r) ∧ Drawn0 w w' := by
  have H : (if a0.toList = ([] : List UInt8) then (moatref12_Right.j0 k a0 true) else (if (a0.size : Int) > 13 then (moatref12_Right.j0 k a0 true) else (if a0.toList = ([46] : List UInt8) then (moatref12_Right.j0 k a0 true) else (moatref12_Right.j0 k a0 (a0.toList == ([46, 46] : List UInt8)))))) = some r := h
  clear h
  have HC2 := Aside0.mk H
  clear H
  go_enter Try.func17, Try.ntmps17
  go_upto_region 1 with (fail)
  go_cut [18] (fun v18 wc => ∃ (kq : Nat) (x18_1 : Bool), v18 = .bool x18_1 ∧ Aside0 (moatref12_Right.j0 kq a0 x18_1 = some r) ∧ Aside0 (kq ≤ k) ∧ Drawn0 w wc)
  case first =>
    have H := HC2.out
    clear HC2
    by_cases c3 : a0.toList = ([] : List UInt8)
    · rw [if_pos c3] at H
      have c3b0 : (a0.toList == ([] : List UInt8)) = true := beq_iff_eq.mpr c3
      have c3b1 : (a0.toList != ([] : List UInt8)) = false := bne_eq_false_iff_eq.mpr c3
      clear c3
      (first | rw [c3b0] | (simp only [i64_w, i32_w]; rw [c3b0]) | skip)
      have H' := Aside0.mk H
      clear H
      go_wp2
      go_meet
      case rel => exact ⟨_, (true), (by first | rfl | (simp; done) | (simp [*]; done)), H', ⟨by first | omega | exact Nat.le_refl _⟩, by repeat (first | exact Drawn0.refl _ | apply Drawn0.step)⟩
    · rw [if_neg c3] at H
      have c3b0 : (a0.toList == ([] : List UInt8)) = false := beq_eq_false_iff_ne.mpr c3
      have c3b1 : (a0.toList != ([] : List UInt8)) = true := bne_iff_ne.mpr c3
      (first | rw [c3b0] | (simp only [i64_w, i32_w]; rw [c3b0]) | skip)
      by_cases c4 : (a0.size : Int) > 13
      · rw [if_pos c4] at H
        have c4b0 : decide (13 < (a0.size : Int)) = true := decide_eq_true c4
        have c4b1 : decide (13 < a0.size) = true := decide_eq_true (by omega)
        clear c4
        have H' := Aside0.mk H
        clear H
        go_wp2
        go_meet
        case rel => exact ⟨_, (true), (by first | rfl | (simp; done) | (simp [*]; done)), H', ⟨by first | omega | exact Nat.le_refl _⟩, by repeat (first | exact Drawn0.refl _ | apply Drawn0.step)⟩
      · rw [if_neg c4] at H
        have c4b0 : decide (13 < (a0.size : Int)) = false := decide_eq_false c4
        have c4b1 : decide (13 < a0.size) = false := decide_eq_false (by omega)
        clear c4
        by_cases c5 : a0.toList = ([46] : List UInt8)
        · rw [if_pos c5] at H
          have c5b0 : (a0.toList == ([46] : List UInt8)) = true := beq_iff_eq.mpr c5
          have c5b1 : (a0.toList != ([46] : List UInt8)) = false := bne_eq_false_iff_eq.mpr c5
          clear c5
          have H' := Aside0.mk H
          clear H
          go_wp2
          go_meet
          case rel => exact ⟨_, (true), (by first | rfl | (simp; done) | (simp [*]; done)), H', ⟨by first | omega | exact Nat.le_refl _⟩, by repeat (first | exact Drawn0.refl _ | apply Drawn0.step)⟩
        · rw [if_neg c5] at H
          have c5b0 : (a0.toList == ([46] : List UInt8)) = false := beq_eq_false_iff_ne.mpr c5
          have c5b1 : (a0.toList != ([46] : List UInt8)) = true := bne_iff_ne.mpr c5
          have H' := Aside0.mk H
          clear H
          go_wp2
          go_meet
          case rel => exact ⟨_, ((a0.toList == ([46, 46] : List UInt8))), (by first | rfl | (simp; done) | (simp [*]; done)), H', ⟨by first | omega | exact Nat.le_refl _⟩, by repeat (first | exact Drawn0.refl _ | apply Drawn0.step)⟩
  case rest =>
    clear HC2
    try clear c1
    try clear p2
    try clear c3
    try clear c3b0
    try clear c3b1
    try clear c4
    try clear c4b0
    try clear c4b1
    try clear c5
    try clear c5b0
    try clear c5b1
    obtain ⟨kq, x18_1, rfl, HA, HJ1, ⟨mc1, rfl⟩⟩ := hcut
    cases kq with
    | zero => exact absurd HA.out (by simp [moatref12_Right.j0])
    | succ kj1 =>
      have H := HA.out
      clear HA
      simp only [moatref12_Right.j0] at H
      by_cases c6 : x18_1 = true
      · subst c6
        have H1 : (some false) = some r := by rw [if_pos rfl] at H; exact H
        clear H
        have H := H1
        clear H1
        obtain rfl := Option.some.inj H
        go_wp2
        go_ret
        exact ⟨by first | rfl | (simp; done) | (simp [*]; done), by repeat (first | exact Drawn0.refl _ | apply Drawn0.step)⟩
      · replace c6 := Bool.eq_false_iff.mpr c6
        subst c6
        have H1 : (moatref12_Right.l0 kj1 a0 0) = some r := by rw [if_neg (show ¬ (false = true) by decide)] at H; exact H
        clear H
        have H := H1
        clear H1
        have H' := Aside0.mk H
        clear H
        go_wp2
        go_loopg [3] kj1 (fun kq v3 w' => ∃ (x3_2 : Int), v3 = .int .i64 x3_2 ∧ Aside0 (moatref12_Right.l0 kq a0 x3_2 = some r) ∧ Aside0 (kq ≤ kj1) ∧ Drawn0 w w')
        case atStart => exact ⟨(0), (by first | rfl | (simp; done) | (simp [*]; done)), H', ⟨Nat.le_refl _⟩, by repeat (first | exact Drawn0.refl _ | apply Drawn0.step)⟩
        case round =>
          clear H'
          try clear c1
          try clear p2
          try clear c3
          try clear c3b0
          try clear c3b1
          try clear c4
          try clear c4b0
          try clear c4b1
          try clear c5
          try clear c5b0
          try clear c5b1
          try clear c6
          try clear p2
          obtain ⟨x3_2, rfl, HA, HK2, ⟨m2, rfl⟩⟩ := hrel
          cases gk with
          | zero => exact absurd HA.out (by simp [moatref12_Right.l0])
          | succ k2 =>
            have H := HA.out
            clear HA
            simp only [moatref12_Right.l0] at H
            by_cases c7 : x3_2 < (a0.size : Int)
            · rw [if_pos c7] at H
              have c7b0 : decide (x3_2 < (a0.size : Int)) = true := decide_eq_true c7
              clear c7
              by_cases c8 : 0 ≤ x3_2
              · rw [if_pos c8] at H
                have c8b0 : decide (0 ≤ x3_2) = true := decide_eq_true c8
                clear c8
                by_cases c10 : (bt a0 x3_2) = 0
                · rw [if_pos c10] at H
                  have c10b0 : ((bt a0 x3_2) == 0) = true := beq_iff_eq.mpr c10
                  have c10b1 : ((bt a0 x3_2) != 0) = false := bne_eq_false_iff_eq.mpr c10
                  clear c10
                  obtain rfl := Option.some.inj H
                  have p9 : 0 ≤ (x3_2 : Int) := of_decide_eq_true (by first | (with_reducible assumption) | assumption)
                  have q9 : x3_2 < (a0.size : Int) := of_decide_eq_true (by first | (with_reducible assumption) | assumption)
                  have hx9 := bt_at a0 x3_2
                  replace p9 := eq_true p9
                  replace q9 := eq_true q9
                  go_wp2
                  go_ret
                  exact ⟨by first | rfl | (simp; done) | (simp [*]; done), by repeat (first | exact Drawn0.refl _ | apply Drawn0.step)⟩
                · rw [if_neg c10] at H
                  have c10b0 : ((bt a0 x3_2) == 0) = false := beq_eq_false_iff_ne.mpr c10
                  have c10b1 : ((bt a0 x3_2) != 0) = true := bne_iff_ne.mpr c10
                  by_cases c12 : (bt a0 x3_2) = 47
                  · rw [if_pos c12] at H
                    have c12b0 : ((bt a0 x3_2) == 47) = true := beq_iff_eq.mpr c12
                    have c12b1 : ((bt a0 x3_2) != 47) = false := bne_eq_false_iff_eq.mpr c12
                    clear c12
                    obtain rfl := Option.some.inj H
                    have p9 : 0 ≤ (x3_2 : Int) := of_decide_eq_true (by first | (with_reducible assumption) | assumption)
                    have q9 : x3_2 < (a0.size : Int) := of_decide_eq_true (by first | (with_reducible assumption) | assumption)
                    have hx9 := bt_at a0 x3_2
                    replace p9 := eq_true p9
                    replace q9 := eq_true q9
                    have p11 : 0 ≤ (x3_2 : Int) := of_decide_eq_true (by first | (with_reducible assumption) | assumption)
                    have q11 : x3_2 < (a0.size : Int) := of_decide_eq_true (by first | (with_reducible assumption) | assumption)
                    have hx11 := bt_at a0 x3_2
                    replace p11 := eq_true p11
                    replace q11 := eq_true q11
                    go_wp2
                    go_ret
                    exact ⟨by first | rfl | (simp; done) | (simp [*]; done), by repeat (first | exact Drawn0.refl _ | apply Drawn0.step)⟩
                  · rw [if_neg c12] at H
                    have c12b0 : ((bt a0 x3_2) == 47) = false := beq_eq_false_iff_ne.mpr c12
                    have c12b1 : ((bt a0 x3_2) != 47) = true := bne_iff_ne.mpr c12
                    have H' := Aside0.mk H
                    clear H
                    have p9 : 0 ≤ (x3_2 : Int) := of_decide_eq_true (by first | (with_reducible assumption) | assumption)
                    have q9 : x3_2 < (a0.size : Int) := of_decide_eq_true (by first | (with_reducible assumption) | assumption)
                    have hx9 := bt_at a0 x3_2
                    replace p9 := eq_true p9
                    replace q9 := eq_true q9
                    have p11 : 0 ≤ (x3_2 : Int) := of_decide_eq_true (by first | (with_reducible assumption) | assumption)
                    have q11 : x3_2 < (a0.size : Int) := of_decide_eq_true (by first | (with_reducible assumption) | assumption)
                    have hx11 := bt_at a0 x3_2
                    replace p11 := eq_true p11
                    replace q11 := eq_true q11
                    go_wp2
                    go_roundg k2
                    case measure => have := HJ1.out; have := HK2.out; omega
                    case rel => exact ⟨(wrap64 (x3_2 + 1)), (by first | rfl | (simp; done) | (simp [*]; done)), H', ⟨by have := HJ1.out; have := HK2.out; omega⟩, by repeat (first | exact Drawn0.refl _ | apply Drawn0.step)⟩
              · rw [if_neg c8] at H
                exact absurd H (by simp)
            · rw [if_neg c7] at H
              have c7b0 : decide (x3_2 < (a0.size : Int)) = false := decide_eq_false c7
              clear c7
              obtain rfl := Option.some.inj H
              go_wp2
              go_ret
              exact ⟨by first | rfl | (simp; done) | (simp [*]; done), by repeat (first | exact Drawn0.refl _ | apply Drawn0.step)⟩

/-- THE ONE PURE STATEMENT of moatref12_Right: yours. -/
def moatref12_Right.Pure : Prop := ∀ (a0 : ByteArray), a0.size ≤ 140737488351232 → ∃ k, moatref12_Right.f k a0 = some true
theorem moatref12_Right.walk (P : moatref12_Right.Pure) (a0 : ByteArray) (w : World) (w0 : a0.size ≤ 140737488351232) :
    Calls Try.prog 17 #[.string a0] w fun e w' => e = .returned (.bool true) ∧ Below w.heap.size w w' := by
  obtain ⟨k, h⟩ := P a0 w0
  refine (moatref12_Right.calls k a0 true w h).mono ?_
  rintro e w' ⟨rfl, hd⟩
  exact ⟨rfl, hd.below⟩

/-! ### moatref02_rest: function 47 -/
def moatref02_rest.f (a0 : Int) : Option (Int) := if (Int.tmod a0 257) < 0 then (some (wrap64 ((Int.tmod a0 257) + 257))) else (some (Int.tmod a0 257))
set_option maxHeartbeats 8000000 in
set_option maxRecDepth 100000 in
theorem moatref02_rest.calls (a0 : Int) (r : Int) (w : World) (h : moatref02_rest.f a0 = some r) :
    Calls Try.prog 47 #[.int .i64 a0] w fun e w' => e = .returned (.int .i64 r) ∧ Drawn0 w w' := by
  have H : (if (Int.tmod a0 257) < 0 then (some (wrap64 ((Int.tmod a0 257) + 257))) else (some (Int.tmod a0 257))) = some r := h
  clear h
  by_cases c2 : (Int.tmod a0 257) < 0
  · rw [if_pos c2] at H
    have c2b0 : decide ((Int.tmod a0 257) < 0) = true := decide_eq_true c2
    clear c2
    obtain rfl := Option.some.inj H
    go_enter Try.func47, Try.ntmps47
    go_wp2
    go_ret
    exact ⟨by first | rfl | (simp; done) | (simp [*]; done), by repeat (first | exact Drawn0.refl _ | apply Drawn0.step)⟩
  · rw [if_neg c2] at H
    have c2b0 : decide ((Int.tmod a0 257) < 0) = false := decide_eq_false c2
    clear c2
    obtain rfl := Option.some.inj H
    go_enter Try.func47, Try.ntmps47
    go_wp2
    go_ret
    exact ⟨by first | rfl | (simp; done) | (simp [*]; done), by repeat (first | exact Drawn0.refl _ | apply Drawn0.step)⟩

/-! ### moatref02_Norm: function 41 -/
def moatref02_Norm.f (a0_0 : Int) (a0_1 : Int) : Option (Int × Int) := (moatref02_rest.f a0_0).bind fun t112 => ((moatref02_rest.f a0_1).bind fun t113 => (some (t112, t113)))
def moatref02_Norm.T1 : Bool × List (List Nat × List Nat) := (true, [([], []), ([0], [0]), ([1], [1]), ([], []), ([3], [3]), ([4, 2], [4]), ([2, 5], [2, 5]), ([6, 5, 0, 1, 2, 3, 4, 5, 6], [6])])
def moatref02_Norm.B1 : List Nat := [0, 1, 3, 0, 8, 31, 63, 127]
theorem moatref02_Norm.tab1 : rtab .any (opsOf Try.f41 1) = moatref02_Norm.T1 := by kernel_rfl
theorem moatref02_Norm.bits1 : waitsOk moatref02_Norm.T1.2 moatref02_Norm.B1 = true := by kernel_rfl
set_option maxHeartbeats 8000000 in
set_option maxRecDepth 100000 in
theorem moatref02_Norm.calls (a0_0 : Int) (a0_1 : Int) (r1 : Int) (r2 : Int) (w : World) (h : moatref02_Norm.f a0_0 a0_1 = some (r1, r2)) :
    Calls Try.prog 41 #[.agg #[.int .i64 a0_0, .int .i64 a0_1]] w fun e w' => e = .returned (.agg #[.int .i64 r1, .int .i64 r2]) ∧ Below w.heap.size w w' := by
  have hu56 := Try.underlying56
  have HB := Aside0.mk (Below.refl w.heap.size w)
  have H : ((moatref02_rest.f a0_0).bind fun t112 => ((moatref02_rest.f a0_1).bind fun t113 => (some (t112, t113)))) = some (r1, r2) := h
  clear h
  replace H := Option.bind_eq_some_iff.mp H
  obtain ⟨t112, A20, H⟩ := H
  replace H : ((moatref02_rest.f a0_1).bind fun t113 => (some (t112, t113))) = some (r1, r2) := H
  have A2 := Aside0.mk A20
  clear A20
  replace H := Option.bind_eq_some_iff.mp H
  obtain ⟨t113, A30, H⟩ := H
  replace H : (some (t112, t113)) = some (r1, r2) := H
  have A3 := Aside0.mk A30
  clear A30
  simp only [Option.some.injEq, Prod.mk.injEq] at H
  obtain ⟨rfl, rfl⟩ := H
  go_enter Try.func41, Try.ntmps41
  try go_wp2_with (first | ((with_reducible refine gate_dst (N := 1) rfl ?_); refine box_event ?hg (N := 1) ?hd (cs := #[.int .i64 a0_0, .int .i64 a0_1]) (t := 56) ?hr ?_; (case hd => rfl); (case hg => rfl); (case hr => first | (go_simp; done) | (go_simp; rfl)); intro gb110 hg w4 hbox hb; have n0_ := Aside0.mk (below_step (by repeat (first | (with_reducible first | exact HB.out | apply below_alloc | apply pw_below_drewN | apply below_drew1) | exact HB.out)) hb); have n1_ := Aside0.mk (hbox); have n2_ := Aside0.mk ((by rw [hg]; exact (below_size (by repeat (first | (with_reducible first | exact HB.out | apply below_alloc | apply pw_below_drewN | apply below_drew1) | exact HB.out))) : w.heap.size ≤ gb110)); have n3_ := Aside0.mk ((by rw [hg]; exact (below_size (by repeat (first | (with_reducible first | exact HB.out | apply below_alloc | apply pw_below_drewN | apply below_drew1) | exact HB.out))) : w.heap.size ≤ gb110)); clear HB; have HB := n0_; have BK110 := n1_; have GW110 := n2_; have GE110 := n3_; clear n0_ n1_ n2_ n3_; clear hb hbox hg) | ((with_reducible refine gate_dst (N := 2) rfl ?_); refine box_event ?hg (N := 2) ?hd (cs := #[.int .i64 0, .int .i64 0]) (t := 56) ?hr ?_; (case hd => rfl); (case hg => rfl); (case hr => first | (go_simp; done) | (go_simp; rfl)); intro gb111 hg w5 hbox hb; have n0_ := Aside0.mk (blk_below (g := gb110) (o := .cells #[.int .i64 a0_0, .int .i64 a0_1] 56 (0, 0)) (by (with_reducible repeat (first | refine blk_drewN ?_ _ | refine blk_drew ?_ | refine blk_alloc ?_ _)); exact BK110.out) hb); have n1_ := Aside0.mk (below_step (by repeat (first | (with_reducible first | exact HB.out | apply below_alloc | apply pw_below_drewN | apply below_drew1 | refine below_set ?_ GE110.out) | exact HB.out)) hb); have n2_ := Aside0.mk (hbox); have n3_ := Aside0.mk ((by rw [hg]; exact (below_size (by repeat (first | (with_reducible first | exact HB.out | apply below_alloc | apply pw_below_drewN | apply below_drew1 | refine below_set ?_ GE110.out) | exact HB.out))) : w.heap.size ≤ gb111)); have n4_ := Aside0.mk ((by rw [hg]; exact (below_size (by repeat (first | (with_reducible first | exact HB.out | apply below_alloc | apply pw_below_drewN | apply below_drew1 | refine below_set ?_ GE110.out) | exact HB.out))) : w.heap.size ≤ gb111)); have n5_ := Aside0.mk ((by rw [hg]; exact Nat.ne_of_lt (blk_lt (g := gb110) (o := .cells #[.int .i64 a0_0, .int .i64 a0_1] 56 (0, 0)) (by (with_reducible repeat (first | refine blk_drewN ?_ _ | refine blk_drew ?_ | refine blk_alloc ?_ _)); exact BK110.out)) : gb110 ≠ gb111)); have n6_ := Aside0.mk ((by rw [hg]; exact Nat.ne_of_gt (blk_lt (g := gb110) (o := .cells #[.int .i64 a0_0, .int .i64 a0_1] 56 (0, 0)) (by (with_reducible repeat (first | refine blk_drewN ?_ _ | refine blk_drew ?_ | refine blk_alloc ?_ _)); exact BK110.out)) : gb111 ≠ gb110)); clear BK110; clear HB; have BK110 := n0_; have HB := n1_; have BK111 := n2_; have GW111 := n3_; have GE111 := n4_; have NB110_111 := n5_; have NB111_110 := n6_; clear n0_ n1_ n2_ n3_ n4_ n5_ n6_; clear hb hbox hg))
  have n0_ := Aside0.mk (blk_drew BK110.out)
  have n1_ := Aside0.mk (blk_drew BK111.out)
  have n2_ := Aside0.mk (below_drew1 HB.out)
  clear BK110
  clear BK111
  clear HB
  have BK110 := n0_
  have BK111 := n1_
  have HB := n2_
  clear n0_ n1_ n2_
  refine start_ (n := 8) (S := fun w' => w'.cell? ⟨gb110, 0, none⟩ = some (.int .i64 a0_0) ∧ w'.cell? ⟨gb110, 1, none⟩ = some (.int .i64 a0_1)) (ds := []) #[false, false, false, false, false, false, false, false] (by kernel_rfl) rfl rfl ⟨(blk_cell BK110.out 0).trans rfl, (blk_cell BK110.out 1).trans rfl⟩ (fun hHeld => ?_); refine with_tabW moatref02_Norm.tab1 moatref02_Norm.bits1 (fun HT_ HW_ => ?_)
  generalize w5.drew = w6 at BK110 BK111 HB hHeld ⊢
  refine pure_ (i := 0) (N := some 3) (v := ?_) (a' := ?_) #[true, false, false, false, false, false, false, false] rfl rfl (any_of HT_.out (by kernel_rfl)) (fun _ _ _ h => h) (Or.inl ⟨by rfl, ?_⟩) ?_ ?_
  rotate_left
  · intro w'
    go_simp
    with_reducible rfl
  rotate_left
  · simp only [Act.put, List.setIfInBounds_toArray, List.set_cons_zero, List.set_cons_succ, i64_w, i32_w]
    rfl
  refine pure_ (i := 3) (N := some 6) (v := ?_) (a' := ?_) #[true, false, false, true, false, false, false, false] rfl rfl (any_of HT_.out (by kernel_rfl)) (fun _ _ _ h => h) (Or.inl ⟨by rfl, ?_⟩) ?_ ?_
  rotate_left
  · intro w'
    go_simp
    with_reducible rfl
  rotate_left
  · simp only [Act.put, List.setIfInBounds_toArray, List.set_cons_zero, List.set_cons_succ, i64_w, i32_w]
    rfl
  refine take_ (i := 1) (N := some 4) (v := ?_) (a' := ?_) #[true, true, false, true, false, false, false, false] rfl rfl (take_ofW HT_.out HW_.out (by kernel_rfl)) (fun _ _ _ h => h) (Or.inl ⟨by rfl, ?_⟩) hHeld ?_ ?_
  rotate_left
  · rintro w' ⟨s0, s1⟩
    go_simp
    with_reducible rfl
  rotate_left
  · simp only [Act.put, List.setIfInBounds_toArray, List.set_cons_zero, List.set_cons_succ, i64_w, i32_w]
    rfl
  refine take_ (i := 4) (N := some 7) (v := ?_) (a' := ?_) #[true, true, false, true, true, false, false, false] rfl rfl (take_ofW HT_.out HW_.out (by kernel_rfl)) (fun _ _ _ h => h) (Or.inl ⟨by rfl, ?_⟩) hHeld ?_ ?_
  rotate_left
  · rintro w' ⟨s0, s1⟩
    go_simp
    with_reducible rfl
  rotate_left
  · simp only [Act.put, List.setIfInBounds_toArray, List.set_cons_zero, List.set_cons_succ, i64_w, i32_w]
    rfl
  refine one_ (i := 2) (N := some 5) #[true, true, true, true, true, false, false, false] rfl rfl (one_of HT_.out (by kernel_rfl)) (by decide) (fun K hK => ?_)
  refine goes_ Try.func47 (by kernel_rfl) rfl #[.int .i64 a0_0] (by rfl) rfl rfl (by (try simp only [List.map_toArray, List.map_cons, List.map_nil]); first | done | rfl | (simp only [List.length_drop, List.length_take]; rfl)) ?_
  with_reducible refine (moatref02_rest.calls a0_0 t112 _ A2.out).mono ?_
  rintro e w' ⟨rfl, ⟨nd, rfl⟩⟩
  refine ⟨_, rfl, ?_⟩
  refine hK.out _ _ ⟨(blk_cell BK110.out 0).trans rfl, (blk_cell BK110.out 1).trans rfl⟩ (fun hHeld => ?_)
  clear hK K
  refine norm_ (a' := ?_) ?_ ?_
  rotate_left
  · show Act.put _ (some 5) _ = _
    simp only [Act.put, List.setIfInBounds_toArray, List.set_cons_zero, List.set_cons_succ, i64_w, i32_w]
    rfl
  refine one_ (i := 5) (N := some 8) #[true, true, true, true, true, true, false, false] rfl rfl (one_of HT_.out (by kernel_rfl)) (by decide) (fun K hK => ?_)
  refine goes_ Try.func47 (by kernel_rfl) rfl #[.int .i64 a0_1] (by rfl) rfl rfl (by (try simp only [List.map_toArray, List.map_cons, List.map_nil]); first | done | rfl | (simp only [List.length_drop, List.length_take]; rfl)) ?_
  with_reducible refine (moatref02_rest.calls a0_1 t113 _ A3.out).mono ?_
  rintro e w' ⟨rfl, ⟨nd, rfl⟩⟩
  refine ⟨_, rfl, ?_⟩
  refine hK.out _ _ ⟨(blk_cell BK110.out 0).trans rfl, (blk_cell BK110.out 1).trans rfl⟩ (fun hHeld => ?_)
  clear hK K
  refine norm_ (a' := ?_) ?_ ?_
  rotate_left
  · show Act.put _ (some 8) _ = _
    simp only [Act.put, List.setIfInBounds_toArray, List.set_cons_zero, List.set_cons_succ, i64_w, i32_w]
    rfl
  refine pure_ (i := 6) (N := some 9) (v := ?_) (a' := ?_) #[true, true, true, true, true, true, true, false] rfl rfl (any_of HT_.out (by kernel_rfl)) (fun _ _ _ h => h) (Or.inl ⟨by rfl, ?_⟩) ?_ ?_
  rotate_left
  · intro w'
    go_simp
    with_reducible rfl
  rotate_left
  · simp only [Act.put, List.setIfInBounds_toArray, List.set_cons_zero, List.set_cons_succ, i64_w, i32_w]
    rfl
  refine one_ (i := 7) (N := none) #[true, true, true, true, true, true, true, true] rfl rfl (one_of HT_.out (by kernel_rfl)) (by decide) (fun K hK => ?_)
  have hs7 : w6.cell? ⟨gb111, 0, none⟩ = some (.int .i64 0) := (blk_cell BK111.out 0).trans rfl
  have hfs7 := blk_frozen BK111.out 0
  have hns7_0 := NB110_111.out
  have hms7_0 := NB111_110.out
  have hs8 : w6.cell? ⟨gb111, 1, none⟩ = some (.int .i64 0) := (blk_cell BK111.out 1).trans rfl
  have hfs8 := blk_frozen BK111.out 1
  have hns8_0 := NB110_111.out
  have hms8_0 := NB111_110.out
  refine skip_ (w1 := ?_) (by rfl) rfl ?_ ?_
  rotate_left
  · go_simp
    rfl
  refine hK.out _ _ ⟨((cell_far (p := ⟨gb111, _, none⟩) NB110_111.out _).trans (((cell_far (p := ⟨gb111, _, none⟩) NB110_111.out _).trans (hHeld.1)))), ((cell_far (p := ⟨gb111, _, none⟩) NB110_111.out _).trans (((cell_far (p := ⟨gb111, _, none⟩) NB110_111.out _).trans (hHeld.2))))⟩ (fun hHeld => ?_)
  clear hK K
  refine done_ (done_of HT_.out (by kernel_rfl)) ?_
  try go_wp2
  refine bodyPost_ret (results_cell_row rfl _ _ gb111 56 #[.int .i64 t112, .int .i64 t113] (0, 0) _ rfl (by (with_reducible repeat (first | refine blk_drewN ?_ _ | refine blk_drew ?_ | refine blk_alloc ?_ _)); refine blk_put (cs := #[.int .i64 t112, .int .i64 0]) ?_ 1 _ rfl; (with_reducible repeat (first | refine blk_drewN ?_ _ | refine blk_drew ?_ | refine blk_alloc ?_ _)); refine blk_put (cs := #[.int .i64 0, .int .i64 0]) ?_ 0 _ rfl; (with_reducible repeat (first | refine blk_drewN ?_ _ | refine blk_drew ?_ | refine blk_alloc ?_ _)); exact BK111.out) Try.underlying56 rfl (by kernel_rfl)) rfl ?_
  exact ⟨by first | rfl | (simp [errW_none, errW_some] <;> rfl) | (simp [*, errW_none, errW_some] <;> rfl), by repeat (first | (with_reducible first | exact HB.out | apply below_alloc | apply pw_below_drewN | apply below_drew1 | refine below_set ?_ GE110.out | refine below_set ?_ GE111.out) | exact HB.out)⟩

end Go.Proofs.Ytinfjmdcmfpdiaa.C
