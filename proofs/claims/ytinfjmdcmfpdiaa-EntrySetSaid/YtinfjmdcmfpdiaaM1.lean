/- Walks and plain laws on which the claim stands, several texts joined. -/
import Derived.Laws.FloatArith
import Derived.Test.YtinfjmdcmfpdiaaProg
import Derived.WalkKit
import Derived.WalkSpells
import Derived.WalkLawsBesides
import Derived.Deep.QuietTactic
import Derived.BigQuiet
import Derived.Laws.Externs
import Derived.KernelRfl
import Derived.Lib.Hide
import Derived.Test.YtinfjmdcmfpdiaaM0
import Derived.Test.YtinfjmdcmfpdiaaShelf
import Derived.Laws.RangeAny
import Derived.Laws.Runes
import Derived.Deep.LoopGhost
import Derived.Lib.OthersKept
import Derived.Below
import Derived.Deep.Draws
import Derived.Deep.AppendLies
import Derived.Maps.AppendAt
import Derived.OwnWalk
import Derived.Laws.BytesArg
import Derived.Laws.MakeOwn
import Derived.Laws.OwnMore
import Derived.Deep.OwnRows
import Derived.Tactics
import Derived.Lib.ConvBytes
import Derived.Laws.Slices
import Derived.RowKit3
import Derived.WideLaws
import Derived.Deep.DeepCutAuto
import Derived.Deep.CutBlock
import Derived.Deep.RegionHeld3
import Derived.Laws.Rows
import Derived.Lib.AppendStr
import Derived.ArgAppend
import Derived.Laws.IdiomCopy
import Derived.OrdersHeld
import Derived.Laws.BitsLemmas
import Derived.RowKit
import Derived.Test.YtinfjmdcmfpdiaaWWords
import Derived.Test.YtinfjmdcmfpdiaaWLast
import Derived.Test.YtinfjmdcmfpdiaaWTab
import Derived.Test.YtinfjmdcmfpdiaaWEqStruct
import Derived.Test.YtinfjmdcmfpdiaaWGuard

/- Small whole numbers as float64 words: sums, differences and products of them are exact, and the floor of a quotient by 257 is the whole quotient. Plain: no program in sight. Condition: the numbers are small (below 2^53; below 2^18 at the quotient). -/
namespace Go.Proofs.Ytinfjmdcmfpdiaa.Fl
open Ieee

/-- The word of a whole number. -/
def fl (n : Int) : Nat := FloatKind.f64.nearest n

theorem log2_of {n k : Nat} (h1 : 2 ^ k ≤ n) (h2 : n < 2 ^ (k + 1)) : n.log2 = k := by
  have h0 : n ≠ 0 := by have := Nat.two_pow_pos k; omega
  exact (Nat.log2_eq_iff h0).2 ⟨h1, h2⟩

theorem log2_mul_pow (n j : Nat) (h : n ≠ 0) : (n * 2 ^ j).log2 = n.log2 + j := by
  refine log2_of ?_ ?_
  · rw [Nat.pow_add]; exact Nat.mul_le_mul_right _ (Nat.log2_self_le h)
  · have h1 := @Nat.lt_log2_self n
    have h2 : n.log2 + j + 1 = (n.log2 + 1) + j := by omega
    rw [h2, Nat.pow_add]; exact Nat.mul_lt_mul_of_pos_right h1 (Nat.two_pow_pos _)

theorem log2_le52 {n : Nat} (h0 : n ≠ 0) (h : n < 2 ^ 53) : n.log2 ≤ 52 := by
  have := (Nat.log2_lt h0).2 h
  omega

theorem least : double.leastPlace = -1074 := by decide
theorem bin : double.binade = 4503599627370496 := by decide
theorem infr : double.infRung = 2047 * 4503599627370496 := by decide
theorem sgw : double.signWeight = 9223372036854775808 := by decide

/-- Nothing is cut where nothing is left over. -/
theorem cut_exact (s : Bool) (n k d : Nat) (hd : d ≤ (n * 2 ^ d).log2 + 2) (hk : k = d) : Toward.even.cut s (n * 2 ^ k) d = n := by
  subst hk
  have hp := Nat.two_pow_pos k
  unfold Toward.cut
  have hm : min k ((n * 2 ^ k).log2 + 2) = k := by omega
  simp only [hm, Nat.shiftLeft_eq, Nat.one_mul]
  rw [Nat.mul_div_cancel _ hp, Nat.mul_mod_left]
  have h2 : (2 ^ k == 2 * 0) = false := by simp
  simp [h2]

theorem cut_zero (s : Bool) (n : Nat) : Toward.even.cut s n 0 = n := by
  unfold Toward.cut
  simp [Nat.mod_one]

/-- What is kept of a small whole number: its digits, as many as fit. -/
def rung (n : Nat) : Nat := (n.log2 + 1022) * 4503599627370496 + n * 2 ^ (52 - n.log2)

theorem mag_range {n : Nat} (h0 : n ≠ 0) (h : n < 2 ^ 53) : 4503599627370496 ≤ n * 2 ^ (52 - n.log2) ∧ n * 2 ^ (52 - n.log2) < 9007199254740992 := by
  have hl := log2_le52 h0 h
  have e : (n * 2 ^ (52 - n.log2)).log2 = 52 := by rw [log2_mul_pow _ _ h0]; omega
  have hz : n * 2 ^ (52 - n.log2) ≠ 0 := by
    have := Nat.mul_pos (Nat.pos_of_ne_zero h0) (Nat.two_pow_pos (52 - n.log2)); omega
  have := (Nat.log2_eq_iff hz).1 e
  simpa using this

theorem nearest_int (s : Bool) (n j : Nat) (h0 : n ≠ 0) (h : n < 2 ^ 53) : double.nearest s (n * 2 ^ j) (-(j : Int)) = double.word s (rung n) := by
  have hl := log2_le52 h0 h
  have hz : n * 2 ^ j ≠ 0 := by
    have := Nat.mul_pos (Nat.pos_of_ne_zero h0) (Nat.two_pow_pos j); omega
  have hr := mag_range h0 h
  unfold Format.nearest
  rw [if_neg hz, least, infr, bin, log2_mul_pow _ _ h0]
  have hf : double.fractionBits = 52 := rfl
  have hlast : max (-(j : Int) + ((n.log2 + j : Nat) : Int) - ((double.fractionBits : Nat) : Int)) (-1074) = (n.log2 : Int) - 52 := by rw [hf]; omega
  simp only [hlast]
  have hkept : Toward.even.cut s ((n * 2 ^ j) <<< (-(j : Int) - ((n.log2 : Int) - 52)).toNat) ((n.log2 : Int) - 52 - -(j : Int)).toNat = n * 2 ^ (52 - n.log2) := by
    by_cases hj : j ≤ 52 - n.log2
    · have e1 : (-(j : Int) - ((n.log2 : Int) - 52)).toNat = 52 - n.log2 - j := by omega
      have e2 : ((n.log2 : Int) - 52 - -(j : Int)).toNat = 0 := by omega
      rw [e1, e2, cut_zero, Nat.shiftLeft_eq, Nat.mul_assoc, ← Nat.pow_add]
      congr 2; omega
    · have e1 : (-(j : Int) - ((n.log2 : Int) - 52)).toNat = 0 := by omega
      have e2 : ((n.log2 : Int) - 52 - -(j : Int)).toNat = j - (52 - n.log2) := by omega
      rw [e1, e2, Nat.shiftLeft_eq, Nat.pow_zero, Nat.mul_one]
      have e3 : n * 2 ^ j = n * 2 ^ (52 - n.log2) * 2 ^ (j - (52 - n.log2)) := by
        rw [Nat.mul_assoc, ← Nat.pow_add]; congr 2; omega
      rw [e3]
      refine cut_exact _ _ _ _ ?_ rfl
      rw [← e3, log2_mul_pow _ _ h0]; omega
  rw [hkept]
  unfold rung
  have e4 : ((n.log2 : Int) - 52 - -1074).toNat = n.log2 + 1022 := by omega
  rw [e4]
  congr 1
  have : (n.log2 + 1022) * 4503599627370496 ≤ 1074 * 4503599627370496 := Nat.mul_le_mul_right _ (by omega)
  omega

theorem fl_zero : fl 0 = 0 := by decide

set_option maxRecDepth 100000 in
theorem fl_ne {n : Int} (h0 : n ≠ 0) (h : n.natAbs < 2 ^ 53) : fl n = double.word (decide (n < 0)) (rung n.natAbs) := by
  have h1 : n.natAbs ≠ 0 := by omega
  have := nearest_int (decide (n < 0)) n.natAbs 0 h1 h
  rw [Nat.pow_zero, Nat.mul_one] at this
  exact this

theorem word_eq (s : Bool) (r : Nat) : double.word s r = (if s = true then 9223372036854775808 else 0) + r := by
  cases s
  · exact (Nat.zero_add _).symm
  · show double.signWeight + r = _
    rw [sgw]; rfl

set_option maxRecDepth 100000 in
/-- A word read back. -/
theorem read_word (s : Bool) (E K : Nat) (hK1 : 4503599627370496 ≤ K) (hK2 : K < 9007199254740992) (hE : E ≤ 1100) :
    double.read (double.word s (E * 4503599627370496 + K)) = .number s K ((E : Int) - 1074) := by
  obtain ⟨z, hz⟩ : ∃ z, z = E * 4503599627370496 := ⟨_, rfl⟩
  rw [← hz, word_eq]
  unfold Format.read
  rw [sgw, bin, infr, least]
  have e1 : ((if s = true then 9223372036854775808 else 0) + (z + K)) % 9223372036854775808 = z + K := by
    cases s
    · simp only [Bool.false_eq_true, if_false]; omega
    · simp only [if_true]; omega
  have e2 : (((if s = true then 9223372036854775808 else 0) + (z + K)) / 9223372036854775808 % 2 == 1) = s := by
    cases s
    · simp only [Bool.false_eq_true, if_false, beq_eq_false_iff_ne]; omega
    · simp only [if_true, beq_iff_eq]; omega
  have e3 : (z + K) / 4503599627370496 = E + 1 := by omega
  have e4 : (z + K) % 4503599627370496 = K - 4503599627370496 := by omega
  simp only [e1, e2, e3, e4]
  rw [if_neg (by omega), if_pos (by omega), show 4503599627370496 + (K - 4503599627370496) = K by omega, show (-1074 : Int) + ((E + 1 - 1 : Nat) : Int) = (E : Int) - 1074 by omega]

/-- A power of two among the whole numbers. -/
def P2 (e : Nat) : Int := ((2 ^ e : Nat) : Int)
theorem P2_pos (e : Nat) : 0 < P2 e := by
  unfold P2; exact Int.natCast_pos.2 (Nat.two_pow_pos e)
theorem P2_add (a b : Nat) : P2 (a + b) = P2 a * P2 b := by
  unfold P2; rw [Nat.pow_add, Int.natCast_mul]
theorem cast_P2 (n e : Nat) : ((n * 2 ^ e : Nat) : Int) = (n : Int) * P2 e := by
  unfold P2; rw [Int.natCast_mul]
theorem P2_nat (e : Nat) : (P2 e).natAbs = 2 ^ e := Int.natAbs_natCast _

def sgn (s : Bool) (m : Int) : Int := if s = true then -m else m
theorem sgn_mul (s : Bool) (m p : Int) : sgn s (m * p) = sgn s m * p := by
  unfold sgn; cases s
  · simp
  · simp [Int.neg_mul]

theorem signed_eq (s : Bool) (m k : Nat) : signed s m k = sgn s m * P2 k := by
  unfold signed
  rw [← sgn_mul, Nat.shiftLeft_eq, cast_P2]; rfl

/-- What a datum stands for, if it is a whole number. -/
structure Rep0 (d : Datum) (a : Int) : Prop where
  out : ∃ (s : Bool) (m e : Nat), d = .number s m (-(e : Int)) ∧ sgn s m = a * P2 e
/-- The same, and it is no negative zero. -/
structure Rep (d : Datum) (a : Int) : Prop where
  out : ∃ (s : Bool) (m e : Nat), d = .number s m (-(e : Int)) ∧ sgn s m = a * P2 e ∧ (m = 0 → s = false)

theorem Rep.rep0 {d : Datum} {a : Int} (h : Rep d a) : Rep0 d a := by
  obtain ⟨s, m, e, h1, h2, _⟩ := h.out
  exact ⟨⟨s, m, e, h1, h2⟩⟩

theorem read_zero : double.read 0 = .number false 0 (-1074) := by decide

set_option maxRecDepth 100000 in
theorem rep_read {n : Int} (h : n.natAbs < 2 ^ 53) : Rep (double.read (fl n)) n := by
  by_cases h0 : n = 0
  · subst h0
    refine ⟨⟨false, 0, 1074, ?_, by rw [Int.zero_mul]; rfl, fun _ => rfl⟩⟩
    rw [fl_zero]; exact read_zero
  · have h1 : n.natAbs ≠ 0 := by omega
    have hr := mag_range h1 h
    have hl := log2_le52 h1 h
    rw [fl_ne h0 h, rung, read_word _ _ _ hr.1 hr.2 (by omega)]
    refine ⟨⟨decide (n < 0), n.natAbs * 2 ^ (52 - n.natAbs.log2), 52 - n.natAbs.log2, ?_, ?_, ?_⟩⟩
    · congr 1; omega
    · rw [cast_P2, sgn_mul]
      congr 1
      unfold sgn
      by_cases hn : n < 0
      · simp only [hn, decide_true, if_true]; omega
      · simp only [hn, decide_false, Bool.false_eq_true, if_false]; omega
    · intro hz; omega

theorem sgn_abs (s : Bool) (m : Nat) : (sgn s (m : Int)).natAbs = m := by
  unfold sgn; cases s
  · simp
  · simp
theorem sgn_neg {s : Bool} {m : Nat} (h : m ≠ 0) : s = decide (sgn s (m : Int) < 0) := by
  unfold sgn; cases s
  · simp
  · simp; omega

theorem mul_P2_neg {a : Int} {e : Nat} : a * P2 e < 0 ↔ a < 0 := by
  have hp := P2_pos e
  constructor
  · intro h
    rcases Int.lt_or_le a 0 with h1 | h1
    · exact h1
    · have := Int.mul_nonneg h1 (Int.le_of_lt hp); omega
  · intro h
    exact Int.mul_neg_of_neg_of_pos h hp
theorem mul_P2_zero {a : Int} {e : Nat} : a * P2 e = 0 ↔ a = 0 := by
  have hp := P2_pos e
  constructor
  · intro h
    rcases Int.mul_eq_zero.1 h with h | h
    · exact h
    · omega
  · intro h; rw [h, Int.zero_mul]

set_option maxRecDepth 100000 in
theorem write_rep {d : Datum} {a : Int} (h : Rep d a) (hb : a.natAbs < 2 ^ 53) : double.write d = fl a := by
  obtain ⟨s, m, e, rfl, h2, h3⟩ := h.out
  by_cases h0 : a = 0
  · subst h0
    have hm : m = 0 := by
      have := sgn_abs s m
      rw [h2, Int.zero_mul] at this; exact this.symm
    subst hm
    rw [h3 rfl, fl_zero]
    unfold Format.write Format.nearest
    rfl
  · have hm : m = a.natAbs * 2 ^ e := by
      have := sgn_abs s m
      rw [h2, Int.natAbs_mul, P2_nat] at this; exact this.symm
    have hmz : m ≠ 0 := by rw [hm]; exact Nat.ne_of_gt (Nat.mul_pos (by omega) (Nat.two_pow_pos _))
    have hs : s = decide (a < 0) := by
      have h4 := sgn_neg (s := s) hmz
      rw [h2] at h4
      simp only [mul_P2_neg] at h4
      exact h4
    subst hm
    show double.nearest s (a.natAbs * 2 ^ e) (-(e : Int)) = _
    rw [nearest_int _ _ _ (by omega) hb, fl_ne h0 hb, hs]

theorem rep_sum {d d' : Datum} {a b : Int} (h : Rep d a) (h' : Rep0 d' b) : ∃ r, d.sum d' = some r ∧ Rep r (a + b) := by
  obtain ⟨s, m, e, rfl, h2, h3⟩ := h.out
  obtain ⟨t, n, e', rfl, h2'⟩ := h'.out
  have hmn : min (-(e : Int)) (-(e' : Int)) = -((max e e' : Nat) : Int) := by omega
  have e1 : (-(e : Int) - -((max e e' : Nat) : Int)).toNat = max e e' - e := by omega
  have e2 : (-(e' : Int) - -((max e e' : Nat) : Int)).toNat = max e e' - e' := by omega
  have htot : signed s m (max e e' - e) + signed t n (max e e' - e') = (a + b) * P2 (max e e') := by
    rw [signed_eq, signed_eq, h2, h2', Int.mul_assoc, Int.mul_assoc, ← P2_add, ← P2_add, Int.add_mul, show e + (max e e' - e) = max e e' by omega, show e' + (max e e' - e') = max e e' by omega]
  have hsum : (Datum.number s m (-(e : Int))).sum (.number t n (-(e' : Int))) = some (.number (if (a + b) * P2 (max e e') = 0 then s && t else decide ((a + b) * P2 (max e e') < 0)) ((a + b) * P2 (max e e')).natAbs (-((max e e' : Nat) : Int))) := by
    unfold Datum.sum
    simp only [hmn, e1, e2, htot]
  generalize hT : (a + b) * P2 (max e e') = T at hsum htot
  refine ⟨_, hsum, ⟨⟨_, _, _, rfl, ?_, ?_⟩⟩⟩
  · rw [hT]
    unfold sgn
    by_cases hz : T = 0
    · subst hz; simp
    · by_cases hn : T < 0
      · simp only [hz, hn, decide_true, if_true, if_false]; omega
      · simp only [hz, hn, decide_false, if_false, Bool.false_eq_true]; omega
  · intro hz
    have hz' : T = 0 := by omega
    rw [if_pos hz']
    have hab : a + b = 0 := mul_P2_zero.1 (hT.trans hz')
    by_cases hm : m = 0
    · rw [h3 hm]; rfl
    · cases s with
      | false => rfl
      | true =>
        cases t with
        | false => rfl
        | true =>
          exfalso
          have ha : a < 0 := by
            have : sgn true (m : Int) < 0 := by unfold sgn; simp; omega
            rw [h2] at this; exact mul_P2_neg.1 this
          have hb : ¬ 0 < b := by
            intro hb
            have h4 := Int.mul_pos hb (P2_pos e')
            rw [← h2'] at h4
            unfold sgn at h4; simp at h4; omega
          omega

theorem rep_opposite {d : Datum} {a : Int} (h : Rep d a) : Rep0 d.opposite (-a) := by
  obtain ⟨s, m, e, rfl, h2, _⟩ := h.out
  refine ⟨⟨!s, m, e, rfl, ?_⟩⟩
  rw [Int.neg_mul, ← h2]
  unfold sgn
  cases s <;> simp

theorem rep_product {d d' : Datum} {a b : Int} (h : Rep d a) (h' : Rep d' b) (hs : 0 ≤ a ∧ 0 ≤ b ∨ 0 < a) : ∃ r, d.product d' = some r ∧ Rep r (a * b) := by
  obtain ⟨s, m, e, rfl, h2, h3⟩ := h.out
  obtain ⟨t, n, e', rfl, h2', h3'⟩ := h'.out
  have hs0 : s = false := by
    cases s with
    | false => rfl
    | true =>
      by_cases hm : m = 0
      · exact h3 hm
      · exfalso
        have h4 : sgn true (m : Int) < 0 := by unfold sgn; simp; omega
        rw [h2, mul_P2_neg] at h4; omega
  subst hs0
  have hpl : -(e : Int) + -(e' : Int) = -((e + e' : Nat) : Int) := by omega
  refine ⟨.number (false ^^ t) (m * n) (-((e + e' : Nat) : Int)), by rw [← hpl]; rfl, ⟨⟨_, _, _, rfl, ?_, ?_⟩⟩⟩
  · rw [P2_add, show a * b * (P2 e * P2 e') = (a * P2 e) * (b * P2 e') by ac_rfl, ← h2, ← h2']
    unfold sgn
    cases t
    · simp
    · simp [Int.mul_neg]
  · intro hz
    cases t with
    | false => rfl
    | true =>
      have hn : n ≠ 0 := fun h => by have := h3' h; cases this
      have hm : m = 0 := by
        rcases Nat.mul_eq_zero.1 hz with h | h
        · exact h
        · exact absurd h hn
      subst hm
      exfalso
      have ha : a = 0 := by
        rw [← mul_P2_zero (e := e), ← h2]; rfl
      have h4 : sgn true (n : Int) < 0 := by unfold sgn; simp; omega
      rw [h2', mul_P2_neg] at h4
      omega

set_option maxRecDepth 100000 in
theorem fl_add {a b : Int} (ha : a.natAbs < 2 ^ 52) (hb : b.natAbs < 2 ^ 52) : floatBits .add .f64 (fl a) (fl b) = some (fl (a + b)) := by
  obtain ⟨r, h1, h2⟩ := rep_sum (rep_read (n := a) (by omega)) (rep_read (n := b) (by omega)).rep0
  show (((double.read (fl a)).sum (double.read (fl b))).map double.write) = _
  rw [h1, Option.map_some, write_rep h2 (by omega)]

set_option maxRecDepth 100000 in
theorem fl_sub {a b : Int} (ha : a.natAbs < 2 ^ 52) (hb : b.natAbs < 2 ^ 52) : floatBits .sub .f64 (fl a) (fl b) = some (fl (a - b)) := by
  obtain ⟨r, h1, h2⟩ := rep_sum (rep_read (n := a) (by omega)) (rep_opposite (rep_read (n := b) (by omega)))
  show (((double.read (fl a)).sum (double.read (fl b)).opposite).map double.write) = _
  rw [h1, Option.map_some, write_rep h2 (by omega)]; rfl

set_option maxRecDepth 100000 in
theorem fl_mul {a b : Int} (ha : a.natAbs < 2 ^ 53) (hb : b.natAbs < 2 ^ 53) (hab : (a * b).natAbs < 2 ^ 53) (hs : 0 ≤ a ∧ 0 ≤ b ∨ 0 < a) : floatBits .mul .f64 (fl a) (fl b) = some (fl (a * b)) := by
  obtain ⟨r, h1, h2⟩ := rep_product (rep_read (n := a) ha) (rep_read (n := b) hb) hs
  show (((double.read (fl a)).product (double.read (fl b))).map double.write) = _
  rw [h1, Option.map_some, write_rep h2 hab]

set_option maxHeartbeats 2000000 in
theorem core4 (n l q r E t U V D mag k kept st : Nat) (hl : l ≤ 17) (h1 : 2 ^ l ≤ n) (h2 : n < 2 ^ (l+1)) (hE : E = 2 ^ (59 - l)) (hn : n = 257 * q + r) (hr : r < 257)
   (hU : U = q * E) (hV : V = r * E) (ht : t = n * 2 ^ (17 - l)) (hD1 : 257 * D ≤ n * (8 * E)) (hD2 : n * (8 * E) < 257 * D + 257) (hst : st ≤ 1) (hst0 : n * (8 * E) = 257 * D → st = 0) (hm : mag = 2 * D + st) (hk : k ≤ 1) :
   (18014398509481984 ≤ mag ∧ mag < 72057594037927936) ∧
   (mag < 36028797018963968 → kept = mag / 4 + k → (k = 1 → 2 ≤ mag % 4) →
      4503599627370496 ≤ kept ∧ kept < 9007199254740992 ∧ 4 * U ≤ kept ∧ kept < 4 * U + 4 * E ∧ (kept = 4 * U ↔ r = 0)) ∧
   (36028797018963968 ≤ mag → kept = mag / 8 + k → (k = 1 → 4 ≤ mag % 8) →
      4503599627370496 ≤ kept ∧ kept < 9007199254740992 ∧ 2 * U ≤ kept ∧ kept < 2 * U + 2 * E ∧ (kept = 2 * U ↔ r = 0)) := by
  have hE1 : 4398046511104 ≤ E := by
    rw [hE]; exact Nat.pow_le_pow_right (n := 2) (by decide) (show 42 ≤ 59 - l by omega)
  have hnE : n * (8 * E) = 8 * (257 * U) + 8 * V := by
    rw [hU, hV, hn, show (257 * q + r) * (8 * E) = 8 * ((257 * q + r) * E) by ac_rfl, Nat.add_mul]
    rw [Nat.mul_add, show 257 * q * E = 257 * (q * E) by ac_rfl]
  have hnt : n * (8 * E) = 35184372088832 * t := by
    have e8 : 8 * E = 2 ^ (17 - l) * 35184372088832 := by
      rw [hE, show (8 : Nat) = 2 ^ 3 by rfl, show (35184372088832 : Nat) = 2 ^ 45 by rfl, ← Nat.pow_add, ← Nat.pow_add]; congr 1; omega
    rw [e8, ht]; ac_rfl
  have hlo : 4611686018427387904 ≤ n * (8 * E) := by
    have : 2 ^ l * (8 * E) = 4611686018427387904 := by
      rw [hE, show (8 : Nat) = 2 ^ 3 by rfl, ← Nat.pow_add, ← Nat.pow_add, show l + (3 + (59 - l)) = 62 by omega]
    rw [← this]; exact Nat.mul_le_mul_right _ h1
  have hhi : n * (8 * E) < 9223372036854775808 := by
    have : 2 ^ (l + 1) * (8 * E) = 9223372036854775808 := by
      rw [hE, show (8 : Nat) = 2 ^ 3 by rfl, ← Nat.pow_add, ← Nat.pow_add, show l + 1 + (3 + (59 - l)) = 63 by omega]
    rw [← this]; exact Nat.mul_lt_mul_of_pos_right h2 (by omega)
  have hV1 : V ≤ 256 * E := by rw [hV]; exact Nat.mul_le_mul_right _ (by omega)
  have hV2 : r = 0 → V = 0 := by intro h; rw [hV, h, Nat.zero_mul]
  have hV3 : r ≠ 0 → E ≤ V := by intro h; rw [hV]; exact Nat.le_mul_of_pos_left _ (by omega)
  generalize n * (8 * E) = A at *
  clear hU hV ht hn hE h1 h2
  subst hm
  refine ⟨by omega, ?_, ?_⟩
  · rintro hlt rfl hk1
    refine ⟨by omega, by omega, by omega, by omega, ?_⟩
    by_cases h0 : r = 0
    · have := hV2 h0; have hs := hst0 (by omega); simp only [h0, iff_true]; omega
    · have := hV3 h0; simp only [h0, iff_false]; omega
  · rintro hlt rfl hk1
    refine ⟨by omega, by omega, by omega, by omega, ?_⟩
    by_cases h0 : r = 0
    · have := hV2 h0; have hs := hst0 (by omega); simp only [h0, iff_true]; omega
    · have := hV3 h0; simp only [h0, iff_false]; omega

end Go.Proofs.Ytinfjmdcmfpdiaa.Fl

/- The floor of a quotient by 257 of small whole numbers, as float64 words, is the whole quotient. Plain: no program in sight. Condition: the number is below 2^18. -/
namespace Go.Proofs.Ytinfjmdcmfpdiaa.Fl
open Ieee

theorem cut_down (s : Bool) (n d : Nat) : Toward.down.cut s n d = n / 2 ^ d + (s && n % 2 ^ d != 0).toNat := by
  have hlt := @Nat.lt_log2_self n
  unfold Toward.cut
  simp only [Nat.shiftLeft_eq, Nat.one_mul]
  by_cases h : d ≤ n.log2 + 2
  · rw [Nat.min_eq_left h]
  · rw [Nat.min_eq_right (by omega)]
    have h1 : n < 2 ^ (n.log2 + 2) := Nat.lt_of_lt_of_le hlt (Nat.pow_le_pow_right (by decide) (by omega))
    have h2 : n < 2 ^ d := Nat.lt_of_lt_of_le h1 (Nat.pow_le_pow_right (by decide) (by omega))
    rw [Nat.div_eq_of_lt h1, Nat.div_eq_of_lt h2, Nat.mod_eq_of_lt h1, Nat.mod_eq_of_lt h2]

/-- The nearest even cut: what it is, told by one bit. -/
theorem cut_even (s : Bool) (n d : Nat) (hd : d ≤ n.log2 + 2) : ∃ k, k ≤ 1 ∧ Toward.even.cut s n d = n / 2 ^ d + k ∧ (k = 1 → 2 ^ d ≤ 2 * (n % 2 ^ d)) := by
  refine ⟨_, ?_, by unfold Toward.cut; simp only [Nat.shiftLeft_eq, Nat.one_mul, Nat.min_eq_left hd]; rfl, ?_⟩
  · exact Bool.toNat_le _
  · intro h
    have h' := Bool.toNat_eq_one.1 h
    simp only [Bool.or_eq_true, Bool.and_eq_true, decide_eq_true_eq, beq_iff_eq] at h'
    omega

/-- What becomes of a quotient that is cut downwards, told in whole numbers: mag * 2 ^ (l - 63), of about 2 ^ 54 or 2 ^ 55. -/
theorem floor_of_nearest (s : Bool) (mag l g kept q E u : Nat) (hl : l ≤ 17) (hg : g = 2 ∨ g = 3) (hlog : mag.log2 = 52 + g)
    (hcut : Toward.even.cut s mag g = kept) (hk1 : 4503599627370496 ≤ kept) (hk2 : kept < 9007199254740992)
    (hE : E = 2 ^ (63 - l - g)) (hq1 : q * E ≤ kept) (hq2 : kept < (q + 1) * E) (hu : u = (s && decide (kept ≠ q * E)).toNat) :
    ∃ m i, double.read (double.nearest s mag ((l : Int) - 63)) = .number s m i ∧ (Datum.number s m i).integral .down = .number s (q + u) 0 := by
  have hz : mag ≠ 0 := by intro h; rw [h] at hlog; simp [Nat.log2_zero] at hlog; omega
  have hn : double.nearest s mag ((l : Int) - 63) = double.word s ((l + g + 1011) * 4503599627370496 + kept) := by
    unfold Format.nearest
    rw [if_neg hz, least, infr, bin, hlog]
    have hf : double.fractionBits = 52 := rfl
    have hlast : max ((l : Int) - 63 + ((52 + g : Nat) : Int) - ((double.fractionBits : Nat) : Int)) (-1074) = (l : Int) + g - 63 := by rw [hf]; omega
    simp only [hlast]
    have e1 : ((l : Int) - 63 - ((l : Int) + g - 63)).toNat = 0 := by omega
    have e2 : ((l : Int) + g - 63 - ((l : Int) - 63)).toNat = g := by omega
    have e3 : ((l : Int) + g - 63 - -1074).toNat = l + g + 1011 := by omega
    rw [e1, e2, e3, Nat.shiftLeft_eq, Nat.pow_zero, Nat.mul_one, hcut, Nat.min_eq_left (by omega)]
  refine ⟨kept, (l : Int) + g - 63, ?_, ?_⟩
  · rw [hn, read_word _ _ _ hk1 hk2 (by omega), show ((l + g + 1011 : Nat) : Int) - 1074 = (l : Int) + g - 63 by omega]
  · unfold Datum.integral
    have e1 : ((l : Int) + g - 63).toNat = 0 := by omega
    have e2 : (-((l : Int) + g - 63)).toNat = 63 - l - g := by omega
    simp only [e1, e2, Nat.shiftLeft_eq, Nat.pow_zero, Nat.mul_one, cut_down, ← hE]
    have hE0 : 0 < E := by rw [hE]; exact Nat.two_pow_pos _
    have hdiv : kept / E = q := by
      rw [Nat.div_eq_iff hE0]; rw [Nat.add_mul] at hq2; omega
    have hmod : kept % E = kept - q * E := by
      have := Nat.div_add_mod kept E
      rw [hdiv, Nat.mul_comm] at this; omega
    rw [hdiv, hmod, hu]
    have hb : (kept - q * E != 0) = decide (kept ≠ q * E) := by
      by_cases h : kept = q * E
      · rw [h, Nat.sub_self]; simp
      · have h' : kept - q * E ≠ 0 := by omega
        rw [bne_iff_ne.2 h', decide_eq_true h]
    rw [hb]

theorem fl257 : double.read (fl 257) = .number false (257 * 2 ^ 44) (-44) := by decide
theorem log257 : (257 * 2 ^ 44).log2 = 52 := by decide
theorem zero257 : double.div 0 (fl 257) = some 0 := by decide

theorem fin_of (f : Int) (s : Bool) (n q r u : Nat) (hn : n = f.natAbs) (hnb : n < 262144) (h0 : f ≠ 0) (hs : s = decide (f < 0)) (hq : q = n / 257) (hr : r = n % 257)
    (hu : u = (s && decide (r ≠ 0)).toNat) : double.write (.number s (q + u) 0) = fl (f / 257) := by
  have hu1 : u ≤ 1 := by rw [hu]; exact Bool.toNat_le _
  have hu2 : f < 0 → (r = 0 → u = 0) ∧ (r ≠ 0 → u = 1) := by
    intro h
    rw [hu, hs, decide_eq_true h, Bool.true_and]
    exact ⟨fun h => by rw [decide_eq_false (by omega)]; rfl, fun h => by rw [decide_eq_true h]; rfl⟩
  have hu3 : ¬ f < 0 → u = 0 := by
    intro h
    rw [hu, hs, decide_eq_false h, Bool.false_and]; rfl
  clear hu
  refine write_rep ⟨⟨s, q + u, 0, rfl, ?_, ?_⟩⟩ (by omega)
  · have : P2 0 = 1 := rfl
    rw [this, Int.mul_one]
    unfold sgn
    by_cases hneg : f < 0
    · have := hu2 hneg
      rw [hs, decide_eq_true hneg, if_pos rfl]; omega
    · have := hu3 hneg
      rw [hs, decide_eq_false hneg, if_neg (by decide)]; omega
  · intro hz
    by_cases hneg : f < 0
    · exfalso
      have := hu2 hneg
      omega
    · rw [hs, decide_eq_false hneg]

theorem floor_of_core (s : Bool) (mag l q r : Nat) (g : Nat) (hl : l ≤ 17) (hg : g = 2 ∨ g = 3) (hlog : mag.log2 = 52 + g)
    (hc : ∀ k kept, k ≤ 1 → kept = mag / 2 ^ g + k → (k = 1 → 2 ^ g ≤ 2 * (mag % 2 ^ g)) → 4503599627370496 ≤ kept ∧ kept < 9007199254740992 ∧ q * 2 ^ (63 - l - g) ≤ kept ∧ kept < (q + 1) * 2 ^ (63 - l - g) ∧ (kept = q * 2 ^ (63 - l - g) ↔ r = 0)) :
    ∃ m i, double.read (double.nearest s mag ((l : Int) - 63)) = .number s m i ∧ (Datum.number s m i).integral .down = .number s (q + (s && decide (r ≠ 0)).toNat) 0 := by
  obtain ⟨k, hk, hcut, hk1⟩ := cut_even s mag g (by omega)
  obtain ⟨c1, c2, c3, c4, c5⟩ := hc k _ hk hcut hk1
  obtain ⟨m, i, hm, hi⟩ := floor_of_nearest s mag l g _ q _ _ hl hg hlog rfl c1 c2 rfl c3 c4 rfl
  have hd : decide (Toward.even.cut s mag g ≠ q * 2 ^ (63 - l - g)) = decide (r ≠ 0) := decide_eq_decide.2 (not_congr c5)
  exact ⟨m, i, hm, by rw [hi, hd]⟩

theorem core2 (n l q r : Nat) (hl : l ≤ 17) (h1 : 2 ^ l ≤ n) (h2 : n < 2 ^ (l+1)) (hq : q = n / 257) (hr : r = n % 257) (D mag st : Nat) (hD : D = n * (8 * 2 ^ (59 - l)) / 257) (hst : st ≤ 1) (hst0 : n * (8 * 2 ^ (59 - l)) = 257 * D → st = 0) (hm : mag = 2 * D + st) :
    (18014398509481984 ≤ mag ∧ mag < 72057594037927936) ∧
    (mag < 36028797018963968 → ∀ k kept, k ≤ 1 → kept = mag / 2 ^ 2 + k → (k = 1 → 2 ^ 2 ≤ 2 * (mag % 2 ^ 2)) → 4503599627370496 ≤ kept ∧ kept < 9007199254740992 ∧ q * 2 ^ (63 - l - 2) ≤ kept ∧ kept < (q + 1) * 2 ^ (63 - l - 2) ∧ (kept = q * 2 ^ (63 - l - 2) ↔ r = 0)) ∧
    (36028797018963968 ≤ mag → ∀ k kept, k ≤ 1 → kept = mag / 2 ^ 3 + k → (k = 1 → 2 ^ 3 ≤ 2 * (mag % 2 ^ 3)) → 4503599627370496 ≤ kept ∧ kept < 9007199254740992 ∧ q * 2 ^ (63 - l - 3) ≤ kept ∧ kept < (q + 1) * 2 ^ (63 - l - 3) ∧ (kept = q * 2 ^ (63 - l - 3) ↔ r = 0)) := by
  have e2 : 2 ^ (63 - l - 2) = 4 * 2 ^ (59 - l) := by
    rw [show 4 * 2 ^ (59 - l) = 2 ^ 2 * 2 ^ (59 - l) by rfl, ← Nat.pow_add]; congr 1; omega
  have e3 : 2 ^ (63 - l - 3) = 2 * 2 ^ (59 - l) := by
    rw [show 2 * 2 ^ (59 - l) = 2 ^ 1 * 2 ^ (59 - l) by rfl, ← Nat.pow_add]; congr 1; omega
  have hD1 : 257 * D ≤ n * (8 * 2 ^ (59 - l)) := by rw [hD]; exact Nat.mul_div_le _ _
  have hD2 : n * (8 * 2 ^ (59 - l)) < 257 * D + 257 := by
    rw [hD]; exact Nat.lt_mul_div_succ _ (by decide)
  have hc := fun k kept hk => core4 n l q r (2 ^ (59 - l)) _ _ _ D mag k kept st hl h1 h2 rfl (by rw [hq, hr]; exact (Nat.div_add_mod n 257).symm) (by rw [hr]; exact Nat.mod_lt _ (by decide)) rfl rfl rfl hD1 hD2 hst hst0 hm hk
  clear hD1 hD2 hD hst0 hm h1 h2 hq hr
  generalize 2 ^ (59 - l) = E at *
  refine ⟨(hc 0 0 (by decide)).1, fun hb k kept hk h3 h4 => ?_, fun hb k kept hk h3 h4 => ?_⟩
  · obtain ⟨c1, c2, c3, c4, c5⟩ := (hc k kept hk).2.1 hb h3 (by intro h; have := h4 h; clear hc; omega)
    clear hc
    rw [e2, Nat.add_mul, show q * (4 * E) = 4 * (q * E) by ac_rfl, Nat.one_mul]
    exact ⟨c1, c2, c3, c4, c5⟩
  · obtain ⟨c1, c2, c3, c4, c5⟩ := (hc k kept hk).2.2 hb h3 (by intro h; have := h4 h; clear hc; omega)
    clear hc
    rw [e3, Nat.add_mul, show q * (2 * E) = 2 * (q * E) by ac_rfl, Nat.one_mul]
    exact ⟨c1, c2, c3, c4, c5⟩

theorem quotient_of (s : Bool) (n l A : Nat) (hl : l ≤ 17) (hMl : (n * 2 ^ (52 - l)).log2 = 52) (hA : A = n * (8 * 2 ^ (59 - l))) :
    (Datum.number s (n * 2 ^ (52 - l)) (((l + 1022 : Nat) : Int) - 1074)).quotient (double.fractionBits + 2) (double.read (fl 257)) = some (.number s (2 * (A / 257) + (A % 257 != 0).toNat) ((l : Int) - 63)) := by
  have hdvd : (n * 2 ^ (52 - l)) <<< 54 = A * 2 ^ 44 := by
    rw [Nat.shiftLeft_eq, hA, show (8 : Nat) = 2 ^ 3 by rfl, Nat.mul_assoc, Nat.mul_assoc, ← Nat.pow_add, ← Nat.pow_add, ← Nat.pow_add, show 52 - l + 54 = 3 + (59 - l) + 44 by omega]
  rw [fl257]
  unfold Datum.quotient
  have hfr : double.fractionBits + 2 = 54 := rfl
  simp only [hMl, log257, hfr]
  rw [if_neg (by decide)]
  have e1 : 54 + 52 - 52 = 54 := rfl
  rw [e1, hdvd, Nat.mul_div_mul_right _ _ (Nat.two_pow_pos 44), Nat.mul_mod_mul_right]
  have e2 : (A % 257 * 2 ^ 44 != 0) = (A % 257 != 0) := by
    rw [Bool.eq_iff_iff]; simp only [bne_iff_ne, ne_eq]
    have := Nat.two_pow_pos 44
    constructor
    · intro h h'; exact h (by rw [h', Nat.zero_mul])
    · intro h h'
      rcases Nat.mul_eq_zero.1 h' with h'' | h''
      · exact h h''
      · omega
  rw [e2, Bool.xor_false, show ((l + 1022 : Nat) : Int) - 1074 - -44 - ((54 : Nat) : Int) - 1 = (l : Int) - 63 by omega]

set_option maxRecDepth 100000 in
theorem fl_floor (f : Int) (hf : f.natAbs < 262144) : ∃ r, floatBits .quo .f64 (fl f) (fl 257) = some r ∧ ∃ s m i, double.read r = .number s m i ∧ double.write ((Datum.number s m i).integral .down) = fl (f / 257) := by
  by_cases h0 : f = 0
  · subst h0
    refine ⟨0, by rw [fl_zero]; exact zero257, false, 0, -1074, read_zero, by decide⟩
  · obtain ⟨n, hn⟩ : ∃ n, n = f.natAbs := ⟨_, rfl⟩
    have hn0 : n ≠ 0 := by omega
    have hnb : n < 262144 := by omega
    obtain ⟨l, hll⟩ : ∃ l, l = n.log2 := ⟨_, rfl⟩
    have hl : l ≤ 17 := by
      have := (Nat.log2_lt (k := 18) hn0).2 (by omega)
      omega
    have h1 := Nat.log2_self_le hn0
    have h2 := @Nat.lt_log2_self n
    have hMl : (n * 2 ^ (52 - l)).log2 = 52 := by rw [log2_mul_pow _ _ hn0]; omega
    rw [← hll] at h1 h2
    obtain ⟨s, hs⟩ : ∃ s, s = decide (f < 0) := ⟨_, rfl⟩
    have hread : double.read (fl f) = .number s (n * 2 ^ (52 - l)) (((l + 1022 : Nat) : Int) - 1074) := by
      have hM := mag_range hn0 (by omega : n < 2 ^ 53)
      rw [hll, fl_ne h0 (by omega), rung, ← hn, read_word _ _ _ hM.1 hM.2 (by omega), hs]
    obtain ⟨A, hA⟩ : ∃ A, A = n * (8 * 2 ^ (59 - l)) := ⟨_, rfl⟩
    have hquo := quotient_of s n l A hl hMl hA
    rw [← hread] at hquo
    obtain ⟨mag, hmag⟩ : ∃ mag, mag = 2 * (A / 257) + (A % 257 != 0).toNat := ⟨_, rfl⟩
    rw [← hmag] at hquo
    have hst0 : A = 257 * (A / 257) → (A % 257 != 0).toNat = 0 := by
      intro h
      have : A % 257 = 0 := by clear hquo hread hMl h1 h2 hf hmag; omega
      rw [this]; rfl
    have hc := core2 n l (n / 257) (n % 257) hl h1 h2 rfl rfl (A / 257) mag _ (by rw [hA]) (Bool.toNat_le _) (by rw [← hA]; exact hst0) hmag
    have hex : ∃ m i, double.read (double.nearest s mag ((l : Int) - 63)) = .number s m i ∧ (Datum.number s m i).integral .down = .number s (n / 257 + (s && decide (n % 257 ≠ 0)).toNat) 0 := by
      clear hquo hread hMl h1 h2 hf hmag hst0 hA hs hn hn0 hnb h0 hll
      by_cases hbig : mag < 36028797018963968
      · exact floor_of_core s mag l _ _ 2 hl (.inl rfl) (log2_of (by have := hc.1; omega) (by omega)) (hc.2.1 hbig)
      · exact floor_of_core s mag l _ _ 3 hl (.inr rfl) (log2_of (by omega) (by have := hc.1; omega)) (hc.2.2 (by omega))
    obtain ⟨m, i, hm, hi⟩ := hex
    refine ⟨double.nearest s mag ((l : Int) - 63), ?_, s, m, i, hm, ?_⟩
    · show (((double.read (fl f)).quotient (double.fractionBits + 2) (double.read (fl 257))).map double.write) = _
      rw [hquo]; rfl
    · rw [hi]
      exact fin_of f s n _ _ _ hn hnb h0 hs rfl rfl rfl

end Go.Proofs.Ytinfjmdcmfpdiaa.Fl

/- The functions of package spin that compute with floats: what each call gives for small whole numbers. Conditions: the numbers are small. -/
namespace Go.Proofs.Ytinfjmdcmfpdiaa.Sp
open Go.RowKit Go.Proofs.Ytinfjmdcmfpdiaa.Fl
open Ieee (Datum Toward double)

theorem cut_toward_zero (s : Bool) (n d : Nat) : Toward.zero.cut s n d = n / 2 ^ d := by
  have hlt := @Nat.lt_log2_self n
  unfold Toward.cut
  simp only [Nat.shiftLeft_eq, Nat.one_mul]
  by_cases h : d ≤ n.log2 + 2
  · rw [Nat.min_eq_left h]; rfl
  · rw [Nat.min_eq_right (by omega)]
    have h1 : n < 2 ^ (n.log2 + 2) := Nat.lt_of_lt_of_le hlt (Nat.pow_le_pow_right (by decide) (by omega))
    have h2 : n < 2 ^ d := Nat.lt_of_lt_of_le h1 (Nat.pow_le_pow_right (by decide) (by omega))
    rw [Nat.div_eq_of_lt h1, Nat.div_eq_of_lt h2]; rfl

theorem rep_toInt {d : Datum} {n : Int} (h : Rep d n) : d.toInt .zero = some n := by
  obtain ⟨s, m, e, rfl, h2, _⟩ := h.out
  have hm : m = n.natAbs * 2 ^ e := by
    have := sgn_abs s m
    rw [h2, Int.natAbs_mul, P2_nat] at this; exact this.symm
  unfold Datum.toInt Datum.integral
  have e1 : (-(e : Int)).toNat = 0 := by omega
  have e2 : (- -(e : Int)).toNat = e := by omega
  have e3 : m / 2 ^ e = n.natAbs := by rw [hm]; exact Nat.mul_div_cancel _ (Nat.two_pow_pos e)
  simp only [e1, e2, Nat.shiftLeft_eq, Nat.pow_zero, Nat.mul_one, cut_toward_zero, e3, signed_eq]
  have h1 : P2 0 = 1 := rfl
  rw [h1, Int.mul_one]
  congr 1
  have hp := P2_pos e
  have h3 : sgn s (n.natAbs : Int) * P2 e = n * P2 e := by rw [← sgn_mul, ← cast_P2, ← hm, h2]
  exact Int.eq_of_mul_eq_mul_right (by omega) h3

set_option maxRecDepth 100000 in
theorem toInt_fl {n : Int} (h : n.natAbs < 2 ^ 53) : floatToIntVal .f64 (fl n) .i64 = some n := by
  unfold floatToIntVal
  have : (FloatKind.f64.decode (fl n)).toInt .zero = some n := rep_toInt (rep_read h)
  rw [this]
  have h2 : IntKind.min .i64 ≤ n ∧ n ≤ IntKind.max .i64 := by
    have e1 : IntKind.min .i64 = -9223372036854775808 := by decide
    have e2 : IntKind.max .i64 = 9223372036854775807 := by decide
    rw [e1, e2]; omega
  simp only [if_pos h2]

/-- math.archFloor of a number. -/
theorem archFloor_run (x : Nat) (s : Bool) (m : Nat) (i : Int) (h : double.read x = .number s m i) (w : World) :
    (callFunc 64 #[.float .f64 x]).run Try.prog w = .ok (.value (.float .f64 (double.write ((Datum.number s m i).integral .down)))) w := by
  rw [run_callFunc_extern Try.func64 (by kernel_rfl) (by kernel_rfl) (by kernel_rfl) (e := Extern.MathFloor.toIntegral "math.archFloor" .down) (by kernel_rfl)]
  have hd : FloatKind.f64.decode x = .number s m i := h
  have e1 : Extern.MathFloor.toIntegral "math.archFloor" .down #[.float .f64 x] = (match FloatKind.f64.decode x with
    | .nan s t =>
      if FloatKind.f64.format.quiet t = t then pure (.float .f64 x) else do
      let kept ← choose (.extern "math.Floor,Ceil,Trunc,RoundToEven.signallingNaN kept" 2)
      pure (.float .f64 (if kept == 1 then x else FloatKind.f64.encode (.nan s (FloatKind.f64.format.quiet t))))
    | d => pure (.float .f64 (FloatKind.f64.encode (d.integral .down)))) := rfl
  rw [e1, hd]
  rfl

set_option maxHeartbeats 400000 in
theorem floor_any (x : Nat) (s : Bool) (m : Nat) (i : Int) (y : Nat) (h : double.read x = .number s m i) (hy : double.write ((Datum.number s m i).integral .down) = y) (w : World) :
    Calls Try.prog 62 #[.float .f64 x] w fun e w' => e = .returned (.float .f64 y) ∧ w' = w := by
  have hx := archFloor_run x s m i h
  rw [hy] at hx
  clear hy h
  go_enter Try.func62, Try.ntmps62
  go_wp2
  go_ret
  exact ⟨rfl, rfl⟩

theorem fl257_word : fl 257 = 4643228808005025792 := by decide

set_option maxHeartbeats 400000 in
/-- spin.rest of a small whole number. -/
theorem rest_any (f : Int) (hf : f.natAbs < 262144) (w : World) :
    Calls Try.prog 60 #[.float .f64 (fl f)] w fun e w' => e = .returned (.float .f64 (fl (f % 257))) ∧ w' = w := by
  obtain ⟨r, hr, s, m, i, h1, h2⟩ := fl_floor f hf
  rw [fl257_word] at hr
  have hq := fun t w => run_float_arith (P := Try.prog) w .quo t .f64 _ _ _ hr
  have hm : floatBits .mul .f64 4643228808005025792 (fl (f / 257)) = some (fl (257 * (f / 257))) := by
    rw [← fl257_word]; exact fl_mul (by decide) (by omega) (by omega) (.inr (by decide))
  have hs : floatBits .sub .f64 (fl f) (fl (257 * (f / 257))) = some (fl (f % 257)) := by
    rw [fl_sub (by omega) (by omega), show f - 257 * (f / 257) = f % 257 by omega]
  have hm' := fun t w => run_float_arith (P := Try.prog) w .mul t .f64 _ _ _ hm
  have hs' := fun t w => run_float_arith (P := Try.prog) w .sub t .f64 _ _ _ hs
  have H1 := Lib.hid h1
  have H2 := Lib.hid h2
  clear hr hm hs h1 h2 hf
  go_enter Try.func60, Try.ntmps60
  go_wp2_with (go_at_call 62; refine (floor_any _ s m i _ H1.out H2.out _).mono ?_; rintro e w' ⟨rfl, rfl⟩)
  go_ret
  exact ⟨rfl, rfl⟩

end Go.Proofs.Ytinfjmdcmfpdiaa.Sp

/- spin.part, of, norm, back: what each call gives, as whole numbers. Conditions: the numbers in floats are small. -/
namespace Go.Proofs.Ytinfjmdcmfpdiaa.Sp
open Go.RowKit Go.Proofs.Ytinfjmdcmfpdiaa.Fl
open Ieee (Datum Toward double)

theorem floatOf_fl (n : Int) : floatOfInt .f64 n = fl n := rfl

theorem tmod_cases (n : Int) : n.tmod 257 = n % 257 ∨ n.tmod 257 = n % 257 - 257 := by
  obtain ⟨m, rfl | rfl⟩ := Int.eq_nat_or_neg n
  · left; rfl
  · rw [Int.neg_tmod]
    have : (m : Int).tmod 257 = (m : Int) % 257 := rfl
    omega

set_option maxHeartbeats 400000 in
theorem part_any (n : Int) (w : World) :
    Calls Try.prog 54 #[.int .i64 n] w fun e w' => e = .returned (.float .f64 (fl (n % 257))) ∧ w' = w := by
  have ht := tmod_cases n
  have hb : (n.tmod 257).natAbs < 262144 := by omega
  have hmod : n.tmod 257 % 257 = n % 257 := by omega
  clear ht
  have H := Lib.hid hmod
  have hc := floatOf_fl (n.tmod 257)
  have HB := Lib.hid hb
  clear hb hmod
  go_enter Try.func54, Try.ntmps54
  go_wp2_with (go_at_call 60; refine (rest_any _ HB.out _).mono ?_; rintro e w' ⟨rfl, rfl⟩)
  go_ret
  exact ⟨congrArg (fun z => Ending.returned (.float .f64 (fl z))) H.out, rfl⟩

set_option maxHeartbeats 400000 in
theorem norm_any (x y : Int) (hx : x.natAbs < 262144) (hy : y.natAbs < 262144) (w : World) :
    Calls Try.prog 55 #[.complex .f64 (fl x) (fl y)] w fun e w' => e = .returned (.complex .f64 (fl (x % 257)) (fl (y % 257))) ∧ w' = w := by
  have HX := Lib.hid hx
  have HY := Lib.hid hy
  clear hx hy
  go_enter Try.func55, Try.ntmps55
  go_wp2_with fail
  refine (rest_any _ HX.out _).mono ?_; rintro e w' ⟨rfl, rfl⟩
  go_wp2_with fail
  refine (rest_any _ HY.out _).mono ?_; rintro e w' ⟨rfl, rfl⟩
  go_wp2
  go_ret
  exact ⟨rfl, rfl⟩

set_option maxHeartbeats 400000 in
theorem back_any (x y : Int) (hx : x.natAbs < 262144) (hy : y.natAbs < 262144) (w : World) :
    Calls Try.prog 44 #[.complex .f64 (fl x) (fl y)] w fun e w' => e = .returned (.agg #[.int .i64 x, .int .i64 y]) ∧ Below w.heap.size w w' := by
  have cx := fun w => run_convert_float_int (P := Try.prog) w 84 3 .f64 .i64 (fl x) x (by rw [Try.underlying84]; rfl) Try.underlying3 (toInt_fl (by omega))
  have cy := fun w => run_convert_float_int (P := Try.prog) w 84 3 .f64 .i64 (fl y) y (by rw [Try.underlying84]; rfl) Try.underlying3 (toInt_fl (by omega))
  clear hx hy
  go_enter Try.func44, Try.ntmps44
  go_wp2
  exact bodyPost_ret (v := .agg #[.int .i64 x, .int .i64 y]) (by simp [results, Try.results44, go_sem]) rfl ⟨rfl, (Below.refl _ _).alloc (Nat.le_refl _) _⟩

set_option maxHeartbeats 400000 in
theorem of_any (x y : Int) (w : World) :
    Calls Try.prog 45 #[.agg #[.int .i64 x, .int .i64 y]] w fun e w' => e = .returned (.complex .f64 (fl (x % 257)) (fl (y % 257))) ∧ Below w.heap.size w w' := by
  go_enter Try.func45, Try.ntmps45
  go_wp2_with fail
  go_quiet ((go_at_call 54; exact Calls.quiet_of_same (part_any _ _)))
  go_wp2
  go_ret
  exact ⟨rfl, below_drewN ((Below.refl _ _).alloc (Nat.le_refl _) _) _⟩

end Go.Proofs.Ytinfjmdcmfpdiaa.Sp

/- spin.Turn, Push, Bits: what each call gives, as whole numbers. No conditions on the whirls. -/
namespace Go.Proofs.Ytinfjmdcmfpdiaa.Sp
open Go.RowKit Go.Proofs.Ytinfjmdcmfpdiaa.Fl Go.Proofs.YtinfjmdcmfpdiaaW.PrintWords Go.Proofs.YtinfjmdcmfpdiaaW.PrintLast Go.Proofs.YtinfjmdcmfpdiaaW.PrintMore
set_option linter.unusedVariables false
set_option linter.unusedSimpArgs false

theorem bcell {W w1 : World} (hb : Below W.heap.size W w1) : (∀ b o, b < W.heap.size → w1.cell? ⟨b, o, none⟩ = W.cell? ⟨b, o, none⟩) ∧ (∀ b o, b < W.heap.size → w1.frozen? ⟨b, o, none⟩ = W.frozen? ⟨b, o, none⟩) :=
  ⟨fun b o h => hb.cell (p := ⟨b, o, none⟩) h, fun b o h => hb.frozen (p := ⟨b, o, none⟩) h⟩

theorem mul_bound {x y : Int} (hx : 0 ≤ x ∧ x < 257) (hy : 0 ≤ y ∧ y < 257) : 0 ≤ x * y ∧ x * y ≤ 65536 :=
  ⟨Int.mul_nonneg hx.1 hy.1, Int.mul_le_mul (by omega : x ≤ 256) (by omega : y ≤ 256) hy.1 (by decide)⟩

theorem cmul_fl {a b c d : Int} (ha : 0 ≤ a ∧ a < 257) (hb : 0 ≤ b ∧ b < 257) (hc : 0 ≤ c ∧ c < 257) (hd : 0 ≤ d ∧ d < 257) :
    cMulBits (fl a) (fl b) (fl c) (fl d) = some (fl (a * c - b * d), fl (a * d + b * c)) := by
  have h1 := mul_bound ha hc
  have h2 := mul_bound hb hd
  have h3 := mul_bound ha hd
  have h4 := mul_bound hb hc
  unfold cMulBits
  rw [fl_mul (by omega) (by omega) (by omega) (.inl ⟨ha.1, hc.1⟩), Option.bind_some, fl_mul (by omega) (by omega) (by omega) (.inl ⟨hb.1, hd.1⟩), Option.bind_some, fl_sub (by omega) (by omega), Option.bind_some,
    fl_mul (by omega) (by omega) (by omega) (.inl ⟨ha.1, hd.1⟩), Option.bind_some, fl_mul (by omega) (by omega) (by omega) (.inl ⟨hb.1, hc.1⟩), Option.bind_some, fl_add (by omega) (by omega), Option.bind_some]

theorem cadd_fl {a b c d : Int} (ha : a.natAbs < 131072) (hb : b.natAbs < 131072) (hc : c.natAbs < 131072) (hd : d.natAbs < 131072) :
    cSumBits .add .f64 (fl a) (fl b) (fl c) (fl d) = some (fl (a + c), fl (b + d)) := by
  unfold cSumBits
  rw [fl_add (by omega) (by omega), Option.bind_some, fl_add (by omega) (by omega), Option.bind_some]

/-- The product's parts, as spin.Turn works them out. -/
def turnX (a b c d : Int) : Int := (a % 257) * (c % 257) - (b % 257) * (d % 257)
def turnY (a b c d : Int) : Int := (a % 257) * (d % 257) + (b % 257) * (c % 257)

theorem back_mod (x y : Int) (w : World) :
    Calls Try.prog 44 #[.complex .f64 (fl (x % 257)) (fl (y % 257))] w fun e w' => e = .returned (.agg #[.int .i64 (x % 257), .int .i64 (y % 257)]) ∧ Below w.heap.size w w' :=
  back_any _ _ (by omega) (by omega) w

/-- What two boxed whirls, and a third one's place, are, beside what the call makes. -/
def Two (w : World) (a b c d : Int) (w' : World) : Prop :=
  w'.cell? ⟨w.heap.size, 0, none⟩ = some (.int .i64 a) ∧ w'.cell? ⟨w.heap.size, 1, none⟩ = some (.int .i64 b) ∧ w'.cell? ⟨w.heap.size + 1, 0, none⟩ = some (.int .i64 c) ∧ w'.cell? ⟨w.heap.size + 1, 1, none⟩ = some (.int .i64 d) ∧
  w'.cell? ⟨w.heap.size + 1 + 1, 0, none⟩ = some (.int .i64 0) ∧ w'.cell? ⟨w.heap.size + 1 + 1, 1, none⟩ = some (.int .i64 0) ∧ w'.frozen? ⟨w.heap.size + 1 + 1, 0, none⟩ = false ∧ w'.frozen? ⟨w.heap.size + 1 + 1, 1, none⟩ = false ∧
  w.heap.size + 2 < w'.heap.size ∧ Below w.heap.size w w'
theorem Two.start (w : World) (a b c d : Int) (t : TypeId) : Two w a b c d (((w.alloc (.cells #[.int .i64 a, .int .i64 b] t)).alloc (.cells #[.int .i64 c, .int .i64 d] t)).alloc (.cells #[.int .i64 0, .int .i64 0] t)).drew := by
  refine ⟨by go_simp, by go_simp, by go_simp, by go_simp, by go_simp, by go_simp, by go_simp, by go_simp, by simp, ?_⟩
  exact below_drewN (((Below.refl _ _).alloc (Nat.le_refl _) _).alloc (by simp) _ |>.alloc (by simp; omega) _) 1
theorem Two.step {w W w' : World} {a b c d : Int} (h : Two w a b c d W) (hb : Below W.heap.size W w') : Two w a b c d w' := by
  obtain ⟨h1, h2, h3, h4, h5, h6, h7, h8, h9, h10⟩ := h
  obtain ⟨hc, hf⟩ := bcell hb
  have := hb.size
  exact ⟨(hc _ _ (by omega)).trans h1, (hc _ _ (by omega)).trans h2, (hc _ _ (by omega)).trans h3, (hc _ _ (by omega)).trans h4, (hc _ _ (by omega)).trans h5, (hc _ _ (by omega)).trans h6, (hf _ _ (by omega)).trans h7, (hf _ _ (by omega)).trans h8, by omega, h10.trans (hb.mono (by omega))⟩

set_option maxHeartbeats 1000000 in
theorem bits_any (x y : Int) (w : World) :
    Calls Try.prog 39 #[.agg #[.int .i64 x, .int .i64 y]] w fun e w' => e = .returned (.int .u8 ((x % 257 + 16 * (y % 257)) % 256)) ∧ Below w.heap.size w w' := by
  go_enter Try.func39, Try.ntmps39
  go_wp2_with fail
  refine (of_any _ _ _).mono ?_
  rintro e w1 ⟨rfl, hb1⟩
  have hsz1 := hb1.size
  simp at hsz1
  go_wp2_with fail
  refine (back_mod _ _ _).mono ?_
  rintro e w2 ⟨rfl, hb2⟩
  go_wp2
  go_ret
  refine ⟨rfl, ?_⟩
  exact (((Below.refl _ _).alloc (Nat.le_refl _) _).trans ((hb1.mono (by simp)).trans (hb2.mono (by omega)))).alloc (by have := hb2.size; omega) _

/-- One byte more, as spin.More does it: of a whirl of whole parts. -/
def stepM (z : Int × Int) (c : UInt8) : Int × Int := ((z.1 * 3 - z.2 * 2 + ((c.toNat : Int) + 1)) % 257, (z.1 * 2 + z.2 * 3 + (c.toNat : Int) % 7) % 257)
/-- spin.More. -/
def moreL (x y : Int) (l : List UInt8) : Int × Int := l.foldl stepM (x % 257, y % 257)
theorem stepM_range (z : Int × Int) (c : UInt8) : (0 ≤ (stepM z c).1 ∧ (stepM z c).1 < 257) ∧ 0 ≤ (stepM z c).2 ∧ (stepM z c).2 < 257 := by
  unfold stepM; dsimp only; omega
theorem foldM_range (l : List UInt8) : ∀ z : Int × Int, (0 ≤ z.1 ∧ z.1 < 257) ∧ 0 ≤ z.2 ∧ z.2 < 257 → (0 ≤ (l.foldl stepM z).1 ∧ (l.foldl stepM z).1 < 257) ∧ 0 ≤ (l.foldl stepM z).2 ∧ (l.foldl stepM z).2 < 257 := by
  induction l with
  | nil => exact fun z h => h
  | cons c l ih => exact fun z _ => ih _ (stepM_range z c)
theorem moreL_range (x y : Int) (l : List UInt8) : (0 ≤ (moreL x y l).1 ∧ (moreL x y l).1 < 257) ∧ 0 ≤ (moreL x y l).2 ∧ (moreL x y l).2 < 257 :=
  foldM_range l _ (by dsimp only; omega)
theorem moreL_snoc (x y : Int) (l : List UInt8) (c : UInt8) : moreL x y (l ++ [c]) = stepM (moreL x y l) c := by
  unfold moreL; rw [List.foldl_append]; rfl
theorem take_snoc (s : ByteArray) (k : Nat) (h : k < s.size) : s.data.toList.take (k + 1) = s.data.toList.take k ++ [s[k]] := by
  rw [List.take_succ_eq_append_getElem (by simpa using h)]; rfl
theorem fl1_word : fl 1 = 4607182418800017408 := by decide
theorem fl3_word : fl 3 = 4613937818241073152 := by decide
theorem fl2_word : fl 2 = 4611686018427387904 := by decide
theorem back_of (x y : Int) (hx : 0 ≤ x ∧ x < 257) (hy : 0 ≤ y ∧ y < 257) (w : World) :
    Calls Try.prog 44 #[.complex .f64 (fl x) (fl y)] w fun e w' => e = .returned (.agg #[.int .i64 x, .int .i64 y]) ∧ Below w.heap.size w w' :=
  back_any _ _ (by omega) (by omega) w
def Z1 (x y : Int) (l : List UInt8) : Int := (moreL x y l).1
def Z2 (x y : Int) (l : List UInt8) : Int := (moreL x y l).2
theorem Z_range (x y : Int) (l : List UInt8) : (0 ≤ Z1 x y l ∧ Z1 x y l < 257) ∧ 0 ≤ Z2 x y l ∧ Z2 x y l < 257 := moreL_range x y l

set_option maxHeartbeats 1000000 in
theorem more_any (x y : Int) (s : ByteArray) (hs : s.size ≤ maxLen) (w : World) :
    Calls Try.prog 46 #[.agg #[.int .i64 x, .int .i64 y], .string s] w fun e w' => e = .returned (.agg #[.int .i64 (moreL x y s.data.toList).1, .int .i64 (moreL x y s.data.toList).2]) ∧ Below w.heap.size w w' := by
  unfold maxLen at hs
  have hfo := fun n => floatOf_fl n
  go_enter Try.func46, Try.ntmps46
  go_wp2_with fail
  refine (of_any _ _ _).mono ?_
  rintro e w1 ⟨rfl, hb1⟩
  have hsz1 := hb1.size
  simp at hsz1
  go_wp2_with fail
  go_loop [5, 12] (fun z i => ∃ k : Nat, k ≤ s.size ∧ i = .int .i64 k ∧ z = .complex .f64 (fl (Z1 x y (s.data.toList.take k))) (fl (Z2 x y (s.data.toList.take k)))) (fun _ i => s.size - (intOf i).toNat)
  case atStart => exact ⟨0, Nat.zero_le _, rfl, rfl⟩
  case round =>
    obtain ⟨k, hk, rfl, rfl⟩ := hrel
    obtain ⟨⟨hz1, hz2⟩, hz3, hz4⟩ := Z_range x y (s.data.toList.take k)
    by_cases hlt : k < s.size
    · have hsn := moreL_snoc x y (s.data.toList.take k) s[k]
      rw [← take_snoc s k hlt] at hsn
      have HS1 : Hid (Z1 x y (s.data.toList.take (k + 1)) = (Z1 x y (s.data.toList.take k) * 3 - Z2 x y (s.data.toList.take k) * 2 + ((s[k].toNat : Int) + 1)) % 257) := Lib.hid (congrArg Prod.fst hsn)
      have HS2 : Hid (Z2 x y (s.data.toList.take (k + 1)) = (Z1 x y (s.data.toList.take k) * 2 + Z2 x y (s.data.toList.take k) * 3 + (s[k].toNat : Int) % 7) % 257) := Lib.hid (congrArg Prod.snd hsn)
      clear hsn
      have hby := s[k].toNat_lt
      have f1 := cmul_fl (a := Z1 x y (s.data.toList.take k)) (b := Z2 x y (s.data.toList.take k)) (c := 3) (d := 2) ⟨hz1, hz2⟩ ⟨hz3, hz4⟩ (by decide) (by decide)
      rw [fl3_word, fl2_word] at f1
      have f2 := fl_add (a := (s[k].toNat : Int)) (b := 1) (by omega) (by decide)
      rw [fl1_word] at f2
      have f3 := cadd_fl (a := Z1 x y (s.data.toList.take k) * 3 - Z2 x y (s.data.toList.take k) * 2) (b := Z1 x y (s.data.toList.take k) * 2 + Z2 x y (s.data.toList.take k) * 3) (c := (s[k].toNat : Int) + 1) (d := (s[k].toNat : Int) % 7) (by omega) (by omega) (by omega) (by omega)
      have g1 := fun t w => run_complex_mul (P := Try.prog) w t _ _ _ _ _ _ f1
      have g2 := fun t w => run_float_arith (P := Try.prog) w .add t .f64 _ _ _ f2
      have g3 := fun t w => run_complex_sum (P := Try.prog) w .add (.inl rfl) t .f64 _ _ _ _ _ _ f3
      have HX : Hid ((Z1 x y (s.data.toList.take k) * 3 - Z2 x y (s.data.toList.take k) * 2 + ((s[k].toNat : Int) + 1)).natAbs < 262144) := Lib.hid (by omega)
      have HY : Hid ((Z1 x y (s.data.toList.take k) * 2 + Z2 x y (s.data.toList.take k) * 3 + (s[k].toNat : Int) % 7).natAbs < 262144) := Lib.hid (by omega)
      clear f1 f2 f3 hz1 hz2 hz3 hz4
      go_wp2_with (go_at_call 55; refine (norm_any _ _ HX.out HY.out _).mono ?_; rintro e w' ⟨rfl, rfl⟩)
      go_round
      case rel => exact ⟨k + 1, by omega, by go_num, by rw [HS1.out, HS2.out]⟩
      case measure => simp [intOf]; omega
    · obtain rfl : k = s.size := by omega
      have hall : s.data.toList.take s.size = s.data.toList := List.take_of_length_le (Nat.le_of_eq (by simp))
      have HA := Lib.hid hall
      clear hall
      go_wp2_with fail
      refine (back_of _ _ ⟨hz1, hz2⟩ ⟨hz3, hz4⟩ _).mono ?_
      rintro e w2 ⟨rfl, hb2⟩
      have hsz2 := hb2.size
      obtain ⟨hc2, hf2⟩ := bcell hb2
      obtain ⟨hc1, hf1⟩ := bcell hb1
      have c0 : w2.cell? ⟨w.heap.size + 1, 0, none⟩ = some (.int .i64 0) := (hc2 _ _ (by omega)).trans ((hc1 _ _ (by simp)).trans (by go_simp))
      have c1 : w2.cell? ⟨w.heap.size + 1, 1, none⟩ = some (.int .i64 0) := (hc2 _ _ (by omega)).trans ((hc1 _ _ (by simp)).trans (by go_simp))
      have d0 : w2.frozen? ⟨w.heap.size + 1, 0, none⟩ = false := (hf2 _ _ (by omega)).trans ((hf1 _ _ (by simp)).trans (by go_simp))
      have d1 : w2.frozen? ⟨w.heap.size + 1, 1, none⟩ = false := (hf2 _ _ (by omega)).trans ((hf1 _ _ (by simp)).trans (by go_simp))
      have hB : Below w.heap.size w w2 := (((Below.refl _ _).alloc (Nat.le_refl _) _).alloc (by simp) _).trans ((hb1.mono (by simp; omega)).trans (hb2.mono (by omega)))
      clear hc1 hf1 hc2 hf2
      go_wp2
      refine bodyPost_ret (v := .agg #[.int .i64 (Z1 x y (s.data.toList.take s.size)), .int .i64 (Z2 x y (s.data.toList.take s.size))]) (by simp [results, Try.results46, go_sem, *]) rfl ⟨by rw [HA.out]; rfl, ?_⟩
      exact (hB.setCell (by simp) _).setCell (by simp) _

end Go.Proofs.Ytinfjmdcmfpdiaa.Sp

/- The contracts of spin.Turn, Push, More and Bits in the form in which the printed contracts take a callee: a plain function with an answer, and that the call gives it. -/
namespace Go.Proofs.Ytinfjmdcmfpdiaa.P
open Go.RowKit Go.Proofs.Ytinfjmdcmfpdiaa.Sp

def spin_More.f (a0_0 : Int) (a0_1 : Int) (a1 : ByteArray) : Option (Int × Int) := if a1.size ≤ maxLen then some (moreL a0_0 a0_1 a1.data.toList) else none
theorem spin_More.calls (a0_0 : Int) (a0_1 : Int) (a1 : ByteArray) (r1 : Int) (r2 : Int) (w : World) (h : spin_More.f a0_0 a0_1 a1 = some (r1, r2)) :
    Calls Try.prog 46 #[.agg #[.int .i64 a0_0, .int .i64 a0_1], .string a1] w fun e w' => e = .returned (.agg #[.int .i64 r1, .int .i64 r2]) ∧ Below w.heap.size w w' := by
  unfold spin_More.f at h
  split at h
  · rename_i hs
    have h1 := Option.some.inj h
    have := more_any a0_0 a0_1 a1 hs w
    rw [h1] at this
    exact this
  · cases h

def spin_Bits.f (a0_0 : Int) (a0_1 : Int) : Option Int := some ((a0_0 % 257 + 16 * (a0_1 % 257)) % 256)
theorem spin_Bits.calls (a0_0 : Int) (a0_1 : Int) (r : Int) (w : World) (h : spin_Bits.f a0_0 a0_1 = some r) :
    Calls Try.prog 39 #[.agg #[.int .i64 a0_0, .int .i64 a0_1]] w fun e w' => e = .returned (.int .u8 r) ∧ Below w.heap.size w w' := by
  obtain rfl := Option.some.inj h
  exact bits_any _ _ w

end Go.Proofs.Ytinfjmdcmfpdiaa.P

/- strings.IndexRune of the two bytes 0 and '/', at a rune past ASCII: it is not there. -/
namespace Go.Proofs.Ytinfjmdcmfpdiaa.Rt
open Go.RowKit Go.Lib

theorem iter_below (w : World) (s : ByteArray) (p : Nat) : Below w.heap.size w (w.iter s p) := (Below.refl _ _).alloc (Nat.le_refl _) _

theorem valid_eq (r : Int) : Lib.validRune r = Utf8.valid r := by
  unfold Lib.validRune Utf8.valid
  rw [Bool.eq_iff_iff]
  simp only [decide_eq_true_eq, Bool.or_eq_true, Bool.and_eq_true]
  omega

set_option maxHeartbeats 2000000 in
set_option maxRecDepth 1000000 in
theorem idx_invalid (r : Int) (h0 : 128 ≤ r) (h1 : r ≠ 65533) (hv : Utf8.valid r = false) (w : World) :
    Calls Try.prog 50 #[.string ⟨#[0, 47]⟩, .int .i32 r] w fun e w' => e = .returned (.int .i64 (-1)) ∧ w' = w := by
  have h2 : (r == 65533) = false := beq_eq_false_iff_ne.2 h1
  rw [← valid_eq] at hv
  clear h1
  go_enter Try.func50, Try.ntmps50
  go_wp2_with fail
  refine (Try.utf8_ValidRune r w).mono ?_
  rintro e w' ⟨rfl, hw⟩
  rw [hw, hv]
  go_wp2
  go_ret
  exact ⟨rfl, rfl⟩

set_option maxHeartbeats 2000000 in
set_option maxRecDepth 1000000 in
theorem idx_error (w : World) :
    Calls Try.prog 50 #[.string ⟨#[0, 47]⟩, .int .i32 65533] w fun e w' => e = .returned (.int .i64 (-1)) ∧ Below w.heap.size w w' := by
  go_enter Try.func50, Try.ntmps50
  go_wp2_with fail
  go_loopg [5, 6] 2 (fun g _ _ wx => ∃ i : Nat, i + g = 2 ∧ wx = w.iter ⟨#[0, 47]⟩ i)
  case atStart => exact ⟨0, rfl, rfl⟩
  case round =>
    obtain ⟨i, hig, rfl⟩ := hrel
    cases gk with
    | zero =>
      obtain rfl : i = 2 := by omega
      have hnx := run_next_end (P := Try.prog) w ⟨#[0, 47]⟩ 2
      go_wp2
      go_ret
      exact ⟨rfl, iter_below _ _ _⟩
    | succ g =>
      have hi : i < (⟨#[0, 47]⟩ : ByteArray).size := by show i < 2; omega
      obtain ⟨x, hx⟩ : ∃ x : UInt8, (⟨#[0, 47]⟩ : ByteArray)[i]'hi = x := ⟨_, rfl⟩
      have hx128 : x.toNat < 128 := by
        rw [← hx]
        rcases (show i = 0 ∨ i = 1 by omega) with rfl | rfl
        · show (0 : UInt8).toNat < 128
          decide
        · show (47 : UInt8).toNat < 128
          decide
      have hnx := fun ty => run_next_ascii (P := Try.prog) w ⟨#[0, 47]⟩ i ty hi (by rw [hx]; exact hx128)
      rw [hx] at hnx
      have hne : ((x.toNat : Int) == 65533) = false := beq_eq_false_iff_ne.2 (by omega)
      clear hx
      go_wp2
      go_roundg g
      case measure => omega
      case rel => exact ⟨i + 1, by omega, rfl⟩

theorem quiet_add {P : Program} {f : FuncId} {args : Array Value} {w : World} {a n : Nat} {v : Value} (h : Calls P f args (w.drewN (a + n)) fun e w' => e = .returned v ∧ w' = w.drewN (a + n)) :
    Calls P f args (w.drewN (a + n)) fun e w'' => e = .returned v ∧ ∃ m, w'' = w.drewN (a + m) :=
  h.mono fun _ _ ⟨he, hm⟩ => ⟨he, n, hm⟩

set_option maxHeartbeats 2000000 in
set_option maxRecDepth 1000000 in
theorem idx_two (r : Int) (h0 : 128 ≤ r) (h1 : r ≠ 65533) (hv : Utf8.valid r = true) (x y : UInt8) (hy : 128 ≤ y.toNat) (he : Utf8.encode r = ⟨#[x, y]⟩) (w : World) :
    Calls Try.prog 50 #[.string ⟨#[0, 47]⟩, .int .i32 r] w fun e w' => e = .returned (.int .i64 (-1)) ∧ Below w.heap.size w w' := by
  have h2 : (r == 65533) = false := beq_eq_false_iff_ne.2 h1
  rw [← valid_eq] at hv
  clear h1
  go_enter Try.func50, Try.ntmps50
  go_wp2_with fail
  refine (Try.utf8_ValidRune r w).mono ?_
  rintro e w' ⟨rfl, hw⟩
  rw [hw, hv]
  go_wp2_with fail
  go_step3
  go_wp2_with fail
  refine wp_loop_rounds 1 ?_
  rw [rounds_succ]
  have hxy : ((((⟨#[0, 47]⟩ : ByteArray)[1]'(by decide)).toNat : Int) != (((⟨#[x, y]⟩ : ByteArray)[1]'(by show 1 < 2; decide)).toNat : Int)) = true := by
    show (((47 : UInt8).toNat : Int) != (y.toNat : Int)) = true
    have : (47 : UInt8).toNat = 47 := by decide
    rw [bne_iff_ne, this]; omega
  go_wp2_with fail
  go_step3
  go_wp2_with fail
  go_quiet (fail)
  go_wp2_with fail
  go_quiet ((go_simp; go_at_call 56; exact quiet_add (Try.strings_IndexByte _ _ _)))
  go_wp2_with fail
  rw [Exit.noGoto_ret]
  go_wp2
  rw [Exit.noGoto_ret]
  go_ret
  exact ⟨rfl, below_drewN (Below.refl _ _) _⟩

set_option maxHeartbeats 2000000 in
set_option maxRecDepth 1000000 in
theorem idx_three (r : Int) (h0 : 128 ≤ r) (h1 : r ≠ 65533) (hv : Utf8.valid r = true) (x y z : UInt8) (he : Utf8.encode r = ⟨#[x, y, z]⟩) (w : World) :
    Calls Try.prog 50 #[.string ⟨#[0, 47]⟩, .int .i32 r] w fun e w' => e = .returned (.int .i64 (-1)) ∧ w' = w := by
  have h2 : (r == 65533) = false := beq_eq_false_iff_ne.2 h1
  rw [← valid_eq] at hv
  clear h1
  go_enter Try.func50, Try.ntmps50
  go_wp2_with fail
  refine (Try.utf8_ValidRune r w).mono ?_
  rintro e w' ⟨rfl, hw⟩
  rw [hw, hv]
  go_wp2_with fail
  go_step3
  go_wp2_with fail
  refine wp_loop_rounds 1 ?_
  rw [rounds_succ]
  go_wp2_with fail
  rw [Exit.noGoto_ret]
  go_ret
  exact ⟨rfl, rfl⟩

set_option maxHeartbeats 2000000 in
set_option maxRecDepth 1000000 in
theorem idx_four (r : Int) (h0 : 128 ≤ r) (h1 : r ≠ 65533) (hv : Utf8.valid r = true) (x y z u : UInt8) (he : Utf8.encode r = ⟨#[x, y, z, u]⟩) (w : World) :
    Calls Try.prog 50 #[.string ⟨#[0, 47]⟩, .int .i32 r] w fun e w' => e = .returned (.int .i64 (-1)) ∧ w' = w := by
  have h2 : (r == 65533) = false := beq_eq_false_iff_ne.2 h1
  rw [← valid_eq] at hv
  clear h1
  go_enter Try.func50, Try.ntmps50
  go_wp2_with fail
  refine (Try.utf8_ValidRune r w).mono ?_
  rintro e w' ⟨rfl, hw⟩
  rw [hw, hv]
  go_wp2_with fail
  go_step3
  go_wp2_with fail
  refine wp_loop_rounds 1 ?_
  rw [rounds_succ]
  go_wp2_with fail
  rw [Exit.noGoto_ret]
  go_ret
  exact ⟨rfl, rfl⟩

theorem below_of_same {w w' : World} (h : w' = w) : Below w.heap.size w w' := by subst h; exact Below.refl _ _

/-- strings.IndexRune of 0 and '/', at any rune past ASCII. -/
theorem idx_high (r : Int) (h0 : 128 ≤ r) (w : World) :
    Calls Try.prog 50 #[.string ⟨#[0, 47]⟩, .int .i32 r] w fun e w' => e = .returned (.int .i64 (-1)) ∧ Below w.heap.size w w' := by
  by_cases h1 : r = 65533
  · subst h1; exact idx_error w
  · cases hv : Utf8.valid r with
    | false => exact (idx_invalid r h0 h1 hv w).mono fun e w' h => ⟨h.1, below_of_same h.2⟩
    | true =>
      have hr : r ≤ 0x10FFFF := by
        unfold Utf8.valid at hv
        simp only [Bool.or_eq_true, Bool.and_eq_true, decide_eq_true_eq] at hv
        omega
      have he : Utf8.encode r = (if r.toNat < 0x80 then ⟨#[UInt8.ofNat r.toNat]⟩
        else if r.toNat < 0x800 then ⟨#[UInt8.ofNat (0xC0 + r.toNat / 64), UInt8.ofNat (0x80 + r.toNat % 64)]⟩
        else if r.toNat < 0x10000 then ⟨#[UInt8.ofNat (0xE0 + r.toNat / 4096), UInt8.ofNat (0x80 + r.toNat / 64 % 64), UInt8.ofNat (0x80 + r.toNat % 64)]⟩
        else ⟨#[UInt8.ofNat (0xF0 + r.toNat / 262144), UInt8.ofNat (0x80 + r.toNat / 4096 % 64), UInt8.ofNat (0x80 + r.toNat / 64 % 64), UInt8.ofNat (0x80 + r.toNat % 64)]⟩) := by
        unfold Utf8.encode
        simp only [hv, if_true]
      rw [if_neg (by omega)] at he
      by_cases h2 : r.toNat < 0x800
      · rw [if_pos h2] at he
        refine idx_two r h0 h1 hv _ _ ?_ he w
        have : (UInt8.ofNat (0x80 + r.toNat % 64)).toNat = (0x80 + r.toNat % 64) % 256 := by simp
        omega
      · rw [if_neg h2] at he
        by_cases h3 : r.toNat < 0x10000
        · rw [if_pos h3] at he
          exact (idx_three r h0 h1 hv _ _ _ he w).mono fun e w' h => ⟨h.1, below_of_same h.2⟩
        · rw [if_neg h3] at he
          exact (idx_four r h0 h1 hv _ _ _ _ he w).mono fun e w' h => ⟨h.1, below_of_same h.2⟩

end Go.Proofs.Ytinfjmdcmfpdiaa.Rt

/- strings.ContainsAny of the two bytes 0 and '/', and entry.Right: every text. -/
namespace Go.Proofs.Ytinfjmdcmfpdiaa.Rt
open Go.RowKit Go.Lib

/-- A rune's bytes past its first one are no ASCII, either. -/
theorem get_at' (s : ByteArray) (i : Nat) (h : i < s.size) : s.get! i = s[i]'h := by
  simp [ByteArray.get!, getElem!_pos, h]
  rfl
theorem cont_high (s : ByteArray) (i k : Nat) (h : (decide (i + k < s.size) && ((s.get! (i + k)).toNat / 64 == 2)) = true) : i + k < s.size ∧ ∀ b, s.data.toList[i + k]? = some b → 128 ≤ b.toNat := by
  simp only [Bool.and_eq_true, decide_eq_true_eq, beq_iff_eq] at h
  obtain ⟨h1, h2⟩ := h
  refine ⟨h1, fun b hb => ?_⟩
  rw [get_at' s (i + k) h1] at h2
  have : s.data.toList[i + k]? = some (s[i + k]'h1) := Lib.data_getElem? s (i + k) h1
  rw [this] at hb
  injection hb with hb
  subst hb
  omega

/-- The bytes that a rune takes. -/
def HighTo (s : ByteArray) (i n : Nat) : Prop := i + n ≤ s.size ∧ ∀ j, i ≤ j → j < i + n → ∀ b, s.data.toList[j]? = some b → 128 ≤ b.toNat
theorem HighTo.one {s : ByteArray} {i : Nat} (h : i < s.size) (h0 : 128 ≤ (s[i]'h).toNat) : HighTo s i 1 := by
  refine ⟨by omega, fun j h1 h2 b hb => ?_⟩
  obtain rfl : j = i := by omega
  have : s.data.toList[j]? = some (s[j]'h) := Lib.data_getElem? s j h
  rw [this] at hb
  injection hb with hb
  subst hb
  exact h0
theorem HighTo.succ {s : ByteArray} {i n : Nat} (h : HighTo s i n) (hc : (decide (i + n < s.size) && ((s.get! (i + n)).toNat / 64 == 2)) = true) : HighTo s i (n + 1) := by
  obtain ⟨h1, h2⟩ := cont_high s i n hc
  refine ⟨by omega, fun j h3 h4 b hb => ?_⟩
  by_cases e : j = i + n
  · subst e; exact h2 b hb
  · exact h.2 j h3 (by omega) b hb

theorem decode_bytes (s : ByteArray) (i : Nat) (h : i < s.size) (h0 : 128 ≤ (s[i]'h).toNat) : HighTo s i (Utf8.decode s i).2 := by
  have H1 := HighTo.one h h0
  have hn : ¬ (s.get! (i + 0)).toNat < 128 := by rw [Nat.add_zero, get_at' s i h]; omega
  unfold Utf8.decode
  simp only [hn, if_false]
  split
  · rename_i c
    simp only [Bool.and_eq_true] at c
    have H2 := H1.succ (by simpa using c.2)
    split
    · exact H2
    · exact H1
  · split
    · rename_i c
      simp only [Bool.and_eq_true] at c
      have H2 := H1.succ (by simpa using c.1.2)
      have H3 := H2.succ (by simpa using c.2)
      split
      · exact H3
      · exact H1
    · split
      · rename_i c
        simp only [Bool.and_eq_true] at c
        have H2 := H1.succ (by simpa using c.1.1.2)
        have H3 := H2.succ (by simpa using c.1.2)
        have H4 := H3.succ (by simpa using c.2)
        split
        · exact H4
        · exact H1
      · exact H1

theorem noAny_high {s : ByteArray} {i n : Nat} (h : NoAny s.data.toList [0, 47] i) (hh : HighTo s i n) : NoAny s.data.toList [0, 47] (i + n) := by
  intro j b hj hb
  by_cases e : j < i
  · exact h j b e hb
  · have := hh.2 j (by omega) hj b hb
    have h1 : b ≠ 0 := by rintro rfl; simp at this
    have h2 : b ≠ 47 := by rintro rfl; simp at this
    simp [h1, h2]

theorem iterAt_below {w W : World} {k : Nat} {s : ByteArray} {p : Nat} (h : Below w.heap.size w W) (hk : w.heap.size ≤ k) : Below w.heap.size w (W.iterAt k s p) := by
  refine ⟨h.os, h.tape, h.output, by simpa [World.iterAt] using h.size, fun i hi => ?_⟩
  have hne : k ≠ i := by omega
  show (W.heap.setIfInBounds k (.stringIter s p))[i]? = w.heap[i]?
  rw [Array.getElem?_setIfInBounds_ne hne]
  exact h.block i hi

theorem calls_hit (c : UInt8) (hc : c.toNat < 128) (w : World) : Calls Try.prog 50 #[.string ⟨#[0, 47]⟩, .int .i32 (c.toNat : Int)] w fun e w' => e = .returned (.int .i64 (Lib.indexByte [0, 47] c)) ∧ Below w.heap.size w w' :=
  (Try.strings_IndexRune_ascii ⟨#[0, 47]⟩ (c.toNat : Int) w (by omega) (by omega)).mono fun e w' ⟨he, hw⟩ => ⟨by rw [he]; simp, below_of_same hw⟩

set_option maxHeartbeats 4000000 in
set_option maxRecDepth 1000000 in
/-- s of at most 8 bytes, whichever they are. -/
theorem indexAny_short (s : ByteArray) (h8 : s.size ≤ 8) (w : World) :
    Calls Try.prog 43 #[.string s, .string ⟨#[0, 47]⟩] w fun e w' => e = .returned (.int .i64 (Lib.indexAny s.data.toList [0, 47])) ∧ Below w.heap.size w w' := by
  have h8z : decide ((8 : Int) < (s.size : Int)) = false := decide_eq_false (by omega)
  go_enter Try.func43, Try.ntmps43
  go_wp2_with (go_at_call 51; refine (Try.strings_shouldUseASCIISet _ _).mono ?_; rintro e w' ⟨rfl, hw⟩; rw [hw, h8z])
  go_loopg [9, 10] s.size (fun g _ _ wx => ∃ i : Nat, i + g = s.size ∧ wx.heap[w.heap.size]? = some (.stringIter s i) ∧ Hid (Below w.heap.size w wx) ∧ Hid (NoAny s.data.toList [0, 47] i))
  case atStart => exact ⟨0, by omega, World.iter_heap w s 0, Lib.hid (iter_below w s 0), Lib.hid (NoAny.zero _ _)⟩
  case round =>
    obtain ⟨i, hig, hit, HB, HN⟩ := hrel
    cases gk with
    | zero =>
      obtain rfl : i = s.size := by omega
      have hnx := fun ty => run_next_end_at (P := Try.prog) wr w.heap.size s s.size ty hit (by omega)
      clear hit
      go_wp2
      go_ret
      exact ⟨by rw [Lib.indexAny_none (by rw [← Lib.size_eq]; exact HN.out)]; rfl, HB.out⟩
    | succ g =>
      have hi : i < s.size := by omega
      have hxl : s.data.toList[i]? = some (s[i]'hi) := Lib.data_getElem? s i hi
      by_cases hx128 : (s[i]'hi).toNat < 128
      · have hnx := fun ty => run_next_ascii_at (P := Try.prog) wr w.heap.size s i ty hit hi hx128
        have hit2 := iterAt_heap wr w.heap.size s i (i + 1) hit
        have HB2 : Hid (Below w.heap.size w (wr.iterAt w.heap.size s (i + 1))) := Lib.hid (iterAt_below HB.out (Nat.le_refl _))
        have hsz2 := (Array.getElem?_eq_some_iff.1 hit2).1
        have Hit2 := Lib.hid hit2
        have hsz := HB2.out.size
        generalize (s[i]'hi) = x at hxl hx128 hnx
        have Hx := Lib.hid hxl
        have hcon := Lib.contains_iff_indexByte [0, 47] x
        clear hit hit2 hxl
        cases hin : ([0, 47] : List UInt8).contains x
        · rw [hin] at hcon
          have hlt : ¬ ((0 : Int) ≤ Lib.indexByte [0, 47] x) := of_decide_eq_false hcon.symm
          have Hin := Lib.hid hin
          clear hcon hin
          go_wp2_with (go_at_call 50; refine (calls_hit x hx128 _).mono ?_; rintro e w' ⟨rfl, hb⟩)
          go_roundg g
          case measure => omega
          case rel => exact ⟨i + 1, by omega, (hb.block _ (by omega)).trans Hit2.out, Lib.hid (HB2.out.trans (hb.mono hsz)), Lib.hid (HN.out.succ Hx.out Hin.out)⟩
        · rw [hin] at hcon
          have hge : (0 : Int) ≤ Lib.indexByte [0, 47] x := of_decide_eq_true hcon.symm
          have Hin := Lib.hid hin
          clear hcon hin
          go_wp2_with (go_at_call 50; refine (calls_hit x hx128 _).mono ?_; rintro e w' ⟨rfl, hb⟩)
          go_ret
          exact ⟨by rw [Lib.indexAny_hit HN.out Hx.out Hin.out]; rfl, HB2.out.trans (hb.mono hsz)⟩
      · have hnx := fun ty => run_next_any_at (P := Try.prog) wr w.heap.size s i ty hit hi
        have hd := decode_high s i hi (by omega)
        have hdb := decode_bytes s i hi (by omega)
        generalize Utf8.decode s i = d at hnx hd hdb
        obtain ⟨c, n⟩ := d
        dsimp only at hnx hd hdb
        have hit2 := iterAt_heap wr w.heap.size s i (i + n) hit
        have HB2 : Hid (Below w.heap.size w (wr.iterAt w.heap.size s (i + n))) := Lib.hid (iterAt_below HB.out (Nat.le_refl _))
        have hsz2 := (Array.getElem?_eq_some_iff.1 hit2).1
        have Hit2 := Lib.hid hit2
        have HDB := Lib.hid hdb
        have hsz := HB2.out.size
        obtain ⟨hd1, hd2⟩ := hd
        have hle := hdb.1
        have hneg : ¬ ((0 : Int) ≤ -1) := by decide
        clear hit hit2 hdb hxl hx128
        go_wp2_with (go_at_call 50; refine (idx_high _ (by omega) _).mono ?_; rintro e w' ⟨rfl, hb⟩)
        go_roundg (s.size - (i + n))
        case measure => omega
        case rel => exact ⟨i + n, by omega, (hb.block _ (by omega)).trans Hit2.out, Lib.hid (HB2.out.trans (hb.mono hsz)), Lib.hid (noAny_high HN.out HDB.out)⟩

theorem zero256 : (Try.prog.info? 81).map (fun i => (i.zero, i.size)) = some (some (.agg (Array.replicate 256 (.bool false))), 256) := by kernel_rfl

theorem indexAny_any (s : ByteArray) (hs : s.size < 4294967281) (w : World) :
    Calls Try.prog 43 #[.string s, .string ⟨#[0, 47]⟩] w fun e w' => e = .returned (.int .i64 (Lib.indexAny s.data.toList [0, 47])) ∧ Below w.heap.size w w' := by
  by_cases h8 : s.size ≤ 8
  · exact indexAny_short s h8 w
  · refine (Try.strings_IndexAny_long (zero_of_info zero256).1 s ⟨#[0, 47]⟩ w (by show 2 ≤ 2; omega) (by omega) hs (by show 2 < 4294967281; omega) ?_).mono fun e w' h => ⟨h.1, ?_⟩
    · intro j b hb
      have : b = 0 ∨ b = 47 := by
        have := List.mem_of_getElem? hb
        simpa using this
      rcases this with rfl | rfl <;> decide
    · rw [h.2]; exact ((Below.refl _ _).alloc (Nat.le_refl _) _).alloc (by simp) _

/-- Are 0 or '/' among the bytes? -/
theorem indexAny_ge (l : List UInt8) : (0 ≤ Lib.indexAny l [0, 47]) ↔ (0 ∈ l ∨ 47 ∈ l) := by
  induction l with
  | nil => simp [Lib.indexAny]
  | cons b l ih =>
    unfold Lib.indexAny
    by_cases hb : ([0, 47] : List UInt8).contains b = true
    · rw [if_pos hb]
      have : b = 0 ∨ b = 47 := by simpa using hb
      rcases this with rfl | rfl <;> simp
    · rw [if_neg hb]
      have h1 : ¬ (b = 0 ∨ b = 47) := by simpa using hb
      have h2 : (0 : UInt8) ≠ b := fun h => h1 (.inl h.symm)
      have h3 : (47 : UInt8) ≠ b := fun h => h1 (.inr h.symm)
      simp only [List.mem_cons, h2, h3, false_or]
      rw [← ih]
      have hge := Lib.indexAny_ge [0, 47] l
      by_cases h4 : Lib.indexAny l [0, 47] = -1
      · rw [if_pos (by rw [h4]; rfl), h4]
      · rw [if_neg (by simpa using h4)]; omega

set_option maxHeartbeats 1000000 in
theorem containsAny_any (s : ByteArray) (hs : s.size < 4294967281) (b : Bool) (hb : b = (s.data.toList.contains 0 || s.data.toList.contains 47)) (w : World) :
    Calls Try.prog 34 #[.string s, .string ⟨#[0, 47]⟩] w fun e w' => e = .returned (.bool b) ∧ Below w.heap.size w w' := by
  have h : decide (0 ≤ Lib.indexAny s.data.toList [0, 47]) = b := by
    rw [hb, Bool.eq_iff_iff]
    simp only [decide_eq_true_eq, Bool.or_eq_true, List.contains_iff_mem]
    exact indexAny_ge _
  have H := Lib.hid h
  clear h hb
  go_enter Try.func34, Try.ntmps34
  go_wp2_with (go_at_call 43; refine (indexAny_any s hs _).mono ?_; rintro e w' ⟨rfl, hb⟩)
  go_ret
  exact ⟨congrArg (fun z => Ending.returned (.bool z)) H.out, hb⟩

/-- entry.Right. -/
def rightB (l : List UInt8) : Bool := !l.isEmpty && decide (l.length ≤ 13) && !(l == [46]) && !(l == [46, 46]) && !(l.contains 0 || l.contains 47)

theorem right_nil {s : ByteArray} (h : s.toList = []) : false = rightB s.data.toList := by
  rw [Lib.toList_data] at h; rw [h]; rfl
theorem right_dot {s : ByteArray} (h : s.toList = [46]) : false = rightB s.data.toList := by
  rw [Lib.toList_data] at h; rw [h]; rfl
theorem right_dots {s : ByteArray} (h : s.toList = [46, 46]) : false = rightB s.data.toList := by
  rw [Lib.toList_data] at h; rw [h]; rfl
theorem right_long {s : ByteArray} (h : ¬ s.size ≤ 13) : false = rightB s.data.toList := by
  have : decide (s.data.toList.length ≤ 13) = false := decide_eq_false (by rw [← Lib.size_eq]; exact h)
  unfold rightB
  rw [this, Bool.and_false, Bool.false_and, Bool.false_and, Bool.false_and]
theorem right_rest {s : ByteArray} (h : s.size ≤ 13) (h0 : ¬ s.toList = []) (h1 : ¬ s.toList = [46]) (h2 : ¬ s.toList = [46, 46]) {b : Bool} (hb : b = (s.data.toList.contains 0 || s.data.toList.contains 47)) : (!b) = rightB s.data.toList := by
  rw [Lib.toList_data] at h0 h1 h2
  have e1 : decide (s.data.toList.length ≤ 13) = true := decide_eq_true (by rw [← Lib.size_eq]; exact h)
  unfold rightB
  rw [e1, ← hb, List.isEmpty_eq_false_iff.2 h0, beq_eq_false_iff_ne.2 h1, beq_eq_false_iff_ne.2 h2]
  rfl

theorem ret_bool {a b : Bool} (h : a = b) : Ending.returned (.bool a) = .returned (.bool b) := by rw [h]

set_option maxHeartbeats 1000000 in
theorem right_any (s : ByteArray) (w : World) :
    Calls Try.prog 16 #[.string s] w fun e w' => e = .returned (.bool (rightB s.data.toList)) ∧ Below w.heap.size w w' := by
  by_cases h0 : s.toList = []
  · have h0' : s.toList.isEmpty = true := by rw [h0]; rfl
    have HR := Lib.hid (right_nil h0)
    clear h0
    go_enter Try.func16, Try.ntmps16
    go_wp2_with fail
    go_ret
    exact ⟨ret_bool HR.out, Below.refl _ _⟩
  · have h0' : s.toList.isEmpty = false := List.isEmpty_eq_false_iff.2 h0
    by_cases h : s.size ≤ 13
    · by_cases h1 : s.toList = [46]
      · have HR := Lib.hid (right_dot h1)
        have h1' : (s.toList == [46]) = true := by rw [h1]; rfl
        clear h1 h0
        go_enter Try.func16, Try.ntmps16
        go_wp2_with fail
        go_ret
        exact ⟨ret_bool HR.out, Below.refl _ _⟩
      · have h1' : (s.toList == [46]) = false := beq_eq_false_iff_ne.2 h1
        by_cases h2 : s.toList = [46, 46]
        · have HR := Lib.hid (right_dots h2)
          have h2' : (s.toList == [46, 46]) = true := by rw [h2]; rfl
          clear h2 h1 h0
          go_enter Try.func16, Try.ntmps16
          go_wp2_with fail
          go_ret
          exact ⟨ret_bool HR.out, Below.refl _ _⟩
        · have h2' : (s.toList == [46, 46]) = false := beq_eq_false_iff_ne.2 h2
          obtain ⟨b, hb⟩ : ∃ b, b = (s.data.toList.contains 0 || s.data.toList.contains 47) := ⟨_, rfl⟩
          have hc := fun w => containsAny_any s (by omega) b hb w
          have HR := Lib.hid (right_rest h h0 h1 h2 hb)
          have HC := Lib.hid hc
          clear hc hb h2 h1 h0
          go_enter Try.func16, Try.ntmps16
          go_wp2_with (go_at_call 34; refine (HC.out _).mono ?_; rintro e w' ⟨rfl, hb⟩)
          go_ret
          exact ⟨ret_bool HR.out, hb⟩
    · have HR := Lib.hid (right_long h)
      clear h0
      go_enter Try.func16, Try.ntmps16
      go_wp2_with fail
      go_ret
      exact ⟨ret_bool HR.out, Below.refl _ _⟩

end Go.Proofs.Ytinfjmdcmfpdiaa.Rt

/- The contract of entry.Right in the form in which the printed contracts take a callee. -/
namespace Go.Proofs.Ytinfjmdcmfpdiaa.P
open Go.RowKit
def entry_Right.f (a0 : ByteArray) : Option Bool := some (Rt.rightB a0.data.toList)
theorem entry_Right.calls (a0 : ByteArray) (r : Bool) (w : World) (h : entry_Right.f a0 = some r) :
    Calls Try.prog 16 #[.string a0] w fun e w' => e = .returned (.bool r) ∧ Below w.heap.size w w' := by
  injection h with h
  rw [← h]
  exact Rt.right_any a0 w
end Go.Proofs.Ytinfjmdcmfpdiaa.P

/- Contracts of functions that the statements reach: each call's answer as a plain Lean function. Printed by a program of this session (over the kit's print) out of the translation; Lean checks it. -/
namespace Go.Proofs.Ytinfjmdcmfpdiaa.B
open Go.RowKit Go.Proofs.YtinfjmdcmfpdiaaW.PrintWords Go.Proofs.YtinfjmdcmfpdiaaW.PrintLast Go.Proofs.YtinfjmdcmfpdiaaW.PrintMore
set_option linter.unusedVariables false
set_option linter.unusedSimpArgs false



def errW : Option Int → Value
  | none => .nilIface
  | some c => .iface 0 (.int .i64 c)
theorem errW_none : errW none = .nilIface := rfl
theorem errW_some (c : Int) : errW (some c) = .iface 0 (.int .i64 c) := rfl

-- the values' own types

end Go.Proofs.Ytinfjmdcmfpdiaa.B
