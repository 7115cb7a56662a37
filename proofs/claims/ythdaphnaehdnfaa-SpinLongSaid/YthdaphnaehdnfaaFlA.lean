/- Small whole numbers as float64 words: sums, differences and products of them are exact, and the floor of a quotient by 257 is the whole quotient. Plain: no program in sight. Condition: the numbers are small (below 2^53; below 2^18 at the quotient). -/
import Derived.Laws.FloatArith
namespace Go.Proofs.Ythdaphnaehdnfaa.Fl
open Ieee

/-- The word of a whole number. -/
def fl (n : Int) : Nat := FloatKind.f64.nearest n

theorem log2_of {n k : Nat} (h1 : 2 ^ k ≤ n) (h2 : n < 2 ^ (k + 1)) : n.log2 = k := by
  have h0 : n ≠ 0 := by have := Nat.two_pow_pos k; omega
  exact (Nat.log2_eq_iff h0).2 ⟨h1, h2⟩

theorem log2_mul_pow (n j : Nat) (h : n ≠ 0) : (n * 2 ^ j).log2 = n.log2 + j := by
  refine log2_of ?_ ?_
  · rw [Nat.pow_add]; exact Nat.mul_le_mul_right _ (Nat.log2_self_le h)
  · have h1 := @Nat.lt_log2_self n
    have h2 : n.log2 + j + 1 = (n.log2 + 1) + j := by omega
    rw [h2, Nat.pow_add]; exact Nat.mul_lt_mul_of_pos_right h1 (Nat.two_pow_pos _)

theorem log2_le52 {n : Nat} (h0 : n ≠ 0) (h : n < 2 ^ 53) : n.log2 ≤ 52 := by
  have := (Nat.log2_lt h0).2 h
  omega

theorem least : double.leastPlace = -1074 := by decide
theorem bin : double.binade = 4503599627370496 := by decide
theorem infr : double.infRung = 2047 * 4503599627370496 := by decide
theorem sgw : double.signWeight = 9223372036854775808 := by decide

/-- Nothing is cut where nothing is left over. -/
theorem cut_exact (s : Bool) (n k d : Nat) (hd : d ≤ (n * 2 ^ d).log2 + 2) (hk : k = d) : Toward.even.cut s (n * 2 ^ k) d = n := by
  subst hk
  have hp := Nat.two_pow_pos k
  unfold Toward.cut
  have hm : min k ((n * 2 ^ k).log2 + 2) = k := by omega
  simp only [hm, Nat.shiftLeft_eq, Nat.one_mul]
  rw [Nat.mul_div_cancel _ hp, Nat.mul_mod_left]
  have h2 : (2 ^ k == 2 * 0) = false := by simp
  simp [h2]

theorem cut_zero (s : Bool) (n : Nat) : Toward.even.cut s n 0 = n := by
  unfold Toward.cut
  simp [Nat.mod_one]

/-- What is kept of a small whole number: its digits, as many as fit. -/
def rung (n : Nat) : Nat := (n.log2 + 1022) * 4503599627370496 + n * 2 ^ (52 - n.log2)

theorem mag_range {n : Nat} (h0 : n ≠ 0) (h : n < 2 ^ 53) : 4503599627370496 ≤ n * 2 ^ (52 - n.log2) ∧ n * 2 ^ (52 - n.log2) < 9007199254740992 := by
  have hl := log2_le52 h0 h
  have e : (n * 2 ^ (52 - n.log2)).log2 = 52 := by rw [log2_mul_pow _ _ h0]; omega
  have hz : n * 2 ^ (52 - n.log2) ≠ 0 := by
    have := Nat.mul_pos (Nat.pos_of_ne_zero h0) (Nat.two_pow_pos (52 - n.log2)); omega
  have := (Nat.log2_eq_iff hz).1 e
  simpa using this

theorem nearest_int (s : Bool) (n j : Nat) (h0 : n ≠ 0) (h : n < 2 ^ 53) : double.nearest s (n * 2 ^ j) (-(j : Int)) = double.word s (rung n) := by
  have hl := log2_le52 h0 h
  have hz : n * 2 ^ j ≠ 0 := by
    have := Nat.mul_pos (Nat.pos_of_ne_zero h0) (Nat.two_pow_pos j); omega
  have hr := mag_range h0 h
  unfold Format.nearest
  rw [if_neg hz, least, infr, bin, log2_mul_pow _ _ h0]
  have hf : double.fractionBits = 52 := rfl
  have hlast : max (-(j : Int) + ((n.log2 + j : Nat) : Int) - ((double.fractionBits : Nat) : Int)) (-1074) = (n.log2 : Int) - 52 := by rw [hf]; omega
  simp only [hlast]
  have hkept : Toward.even.cut s ((n * 2 ^ j) <<< (-(j : Int) - ((n.log2 : Int) - 52)).toNat) ((n.log2 : Int) - 52 - -(j : Int)).toNat = n * 2 ^ (52 - n.log2) := by
    by_cases hj : j ≤ 52 - n.log2
    · have e1 : (-(j : Int) - ((n.log2 : Int) - 52)).toNat = 52 - n.log2 - j := by omega
      have e2 : ((n.log2 : Int) - 52 - -(j : Int)).toNat = 0 := by omega
      rw [e1, e2, cut_zero, Nat.shiftLeft_eq, Nat.mul_assoc, ← Nat.pow_add]
      congr 2; omega
    · have e1 : (-(j : Int) - ((n.log2 : Int) - 52)).toNat = 0 := by omega
      have e2 : ((n.log2 : Int) - 52 - -(j : Int)).toNat = j - (52 - n.log2) := by omega
      rw [e1, e2, Nat.shiftLeft_eq, Nat.pow_zero, Nat.mul_one]
      have e3 : n * 2 ^ j = n * 2 ^ (52 - n.log2) * 2 ^ (j - (52 - n.log2)) := by
        rw [Nat.mul_assoc, ← Nat.pow_add]; congr 2; omega
      rw [e3]
      refine cut_exact _ _ _ _ ?_ rfl
      rw [← e3, log2_mul_pow _ _ h0]; omega
  rw [hkept]
  unfold rung
  have e4 : ((n.log2 : Int) - 52 - -1074).toNat = n.log2 + 1022 := by omega
  rw [e4]
  congr 1
  have : (n.log2 + 1022) * 4503599627370496 ≤ 1074 * 4503599627370496 := Nat.mul_le_mul_right _ (by omega)
  omega

theorem fl_zero : fl 0 = 0 := by decide

set_option maxRecDepth 100000 in
theorem fl_ne {n : Int} (h0 : n ≠ 0) (h : n.natAbs < 2 ^ 53) : fl n = double.word (decide (n < 0)) (rung n.natAbs) := by
  have h1 : n.natAbs ≠ 0 := by omega
  have := nearest_int (decide (n < 0)) n.natAbs 0 h1 h
  rw [Nat.pow_zero, Nat.mul_one] at this
  exact this

theorem word_eq (s : Bool) (r : Nat) : double.word s r = (if s = true then 9223372036854775808 else 0) + r := by
  cases s
  · exact (Nat.zero_add _).symm
  · show double.signWeight + r = _
    rw [sgw]; rfl

set_option maxRecDepth 100000 in
/-- A word read back. -/
theorem read_word (s : Bool) (E K : Nat) (hK1 : 4503599627370496 ≤ K) (hK2 : K < 9007199254740992) (hE : E ≤ 1100) :
    double.read (double.word s (E * 4503599627370496 + K)) = .number s K ((E : Int) - 1074) := by
  obtain ⟨z, hz⟩ : ∃ z, z = E * 4503599627370496 := ⟨_, rfl⟩
  rw [← hz, word_eq]
  unfold Format.read
  rw [sgw, bin, infr, least]
  have e1 : ((if s = true then 9223372036854775808 else 0) + (z + K)) % 9223372036854775808 = z + K := by
    cases s
    · simp only [Bool.false_eq_true, if_false]; omega
    · simp only [if_true]; omega
  have e2 : (((if s = true then 9223372036854775808 else 0) + (z + K)) / 9223372036854775808 % 2 == 1) = s := by
    cases s
    · simp only [Bool.false_eq_true, if_false, beq_eq_false_iff_ne]; omega
    · simp only [if_true, beq_iff_eq]; omega
  have e3 : (z + K) / 4503599627370496 = E + 1 := by omega
  have e4 : (z + K) % 4503599627370496 = K - 4503599627370496 := by omega
  simp only [e1, e2, e3, e4]
  rw [if_neg (by omega), if_pos (by omega), show 4503599627370496 + (K - 4503599627370496) = K by omega, show (-1074 : Int) + ((E + 1 - 1 : Nat) : Int) = (E : Int) - 1074 by omega]

/-- A power of two among the whole numbers. -/
def P2 (e : Nat) : Int := ((2 ^ e : Nat) : Int)
theorem P2_pos (e : Nat) : 0 < P2 e := by
  unfold P2; exact Int.natCast_pos.2 (Nat.two_pow_pos e)
theorem P2_add (a b : Nat) : P2 (a + b) = P2 a * P2 b := by
  unfold P2; rw [Nat.pow_add, Int.natCast_mul]
theorem cast_P2 (n e : Nat) : ((n * 2 ^ e : Nat) : Int) = (n : Int) * P2 e := by
  unfold P2; rw [Int.natCast_mul]
theorem P2_nat (e : Nat) : (P2 e).natAbs = 2 ^ e := Int.natAbs_natCast _

def sgn (s : Bool) (m : Int) : Int := if s = true then -m else m
theorem sgn_mul (s : Bool) (m p : Int) : sgn s (m * p) = sgn s m * p := by
  unfold sgn; cases s
  · simp
  · simp [Int.neg_mul]

theorem signed_eq (s : Bool) (m k : Nat) : signed s m k = sgn s m * P2 k := by
  unfold signed
  rw [← sgn_mul, Nat.shiftLeft_eq, cast_P2]; rfl

/-- What a datum stands for, if it is a whole number. -/
structure Rep0 (d : Datum) (a : Int) : Prop where
  out : ∃ (s : Bool) (m e : Nat), d = .number s m (-(e : Int)) ∧ sgn s m = a * P2 e
/-- The same, and it is no negative zero. -/
structure Rep (d : Datum) (a : Int) : Prop where
  out : ∃ (s : Bool) (m e : Nat), d = .number s m (-(e : Int)) ∧ sgn s m = a * P2 e ∧ (m = 0 → s = false)

theorem Rep.rep0 {d : Datum} {a : Int} (h : Rep d a) : Rep0 d a := by
  obtain ⟨s, m, e, h1, h2, _⟩ := h.out
  exact ⟨⟨s, m, e, h1, h2⟩⟩

theorem read_zero : double.read 0 = .number false 0 (-1074) := by decide

set_option maxRecDepth 100000 in
theorem rep_read {n : Int} (h : n.natAbs < 2 ^ 53) : Rep (double.read (fl n)) n := by
  by_cases h0 : n = 0
  · subst h0
    refine ⟨⟨false, 0, 1074, ?_, by rw [Int.zero_mul]; rfl, fun _ => rfl⟩⟩
    rw [fl_zero]; exact read_zero
  · have h1 : n.natAbs ≠ 0 := by omega
    have hr := mag_range h1 h
    have hl := log2_le52 h1 h
    rw [fl_ne h0 h, rung, read_word _ _ _ hr.1 hr.2 (by omega)]
    refine ⟨⟨decide (n < 0), n.natAbs * 2 ^ (52 - n.natAbs.log2), 52 - n.natAbs.log2, ?_, ?_, ?_⟩⟩
    · congr 1; omega
    · rw [cast_P2, sgn_mul]
      congr 1
      unfold sgn
      by_cases hn : n < 0
      · simp only [hn, decide_true, if_true]; omega
      · simp only [hn, decide_false, Bool.false_eq_true, if_false]; omega
    · intro hz; omega

theorem sgn_abs (s : Bool) (m : Nat) : (sgn s (m : Int)).natAbs = m := by
  unfold sgn; cases s
  · simp
  · simp
theorem sgn_neg {s : Bool} {m : Nat} (h : m ≠ 0) : s = decide (sgn s (m : Int) < 0) := by
  unfold sgn; cases s
  · simp
  · simp; omega

theorem mul_P2_neg {a : Int} {e : Nat} : a * P2 e < 0 ↔ a < 0 := by
  have hp := P2_pos e
  constructor
  · intro h
    rcases Int.lt_or_le a 0 with h1 | h1
    · exact h1
    · have := Int.mul_nonneg h1 (Int.le_of_lt hp); omega
  · intro h
    exact Int.mul_neg_of_neg_of_pos h hp
theorem mul_P2_zero {a : Int} {e : Nat} : a * P2 e = 0 ↔ a = 0 := by
  have hp := P2_pos e
  constructor
  · intro h
    rcases Int.mul_eq_zero.1 h with h | h
    · exact h
    · omega
  · intro h; rw [h, Int.zero_mul]

set_option maxRecDepth 100000 in
theorem write_rep {d : Datum} {a : Int} (h : Rep d a) (hb : a.natAbs < 2 ^ 53) : double.write d = fl a := by
  obtain ⟨s, m, e, rfl, h2, h3⟩ := h.out
  by_cases h0 : a = 0
  · subst h0
    have hm : m = 0 := by
      have := sgn_abs s m
      rw [h2, Int.zero_mul] at this; exact this.symm
    subst hm
    rw [h3 rfl, fl_zero]
    unfold Format.write Format.nearest
    rfl
  · have hm : m = a.natAbs * 2 ^ e := by
      have := sgn_abs s m
      rw [h2, Int.natAbs_mul, P2_nat] at this; exact this.symm
    have hmz : m ≠ 0 := by rw [hm]; exact Nat.ne_of_gt (Nat.mul_pos (by omega) (Nat.two_pow_pos _))
    have hs : s = decide (a < 0) := by
      have h4 := sgn_neg (s := s) hmz
      rw [h2] at h4
      simp only [mul_P2_neg] at h4
      exact h4
    subst hm
    show double.nearest s (a.natAbs * 2 ^ e) (-(e : Int)) = _
    rw [nearest_int _ _ _ (by omega) hb, fl_ne h0 hb, hs]

theorem rep_sum {d d' : Datum} {a b : Int} (h : Rep d a) (h' : Rep0 d' b) : ∃ r, d.sum d' = some r ∧ Rep r (a + b) := by
  obtain ⟨s, m, e, rfl, h2, h3⟩ := h.out
  obtain ⟨t, n, e', rfl, h2'⟩ := h'.out
  have hmn : min (-(e : Int)) (-(e' : Int)) = -((max e e' : Nat) : Int) := by omega
  have e1 : (-(e : Int) - -((max e e' : Nat) : Int)).toNat = max e e' - e := by omega
  have e2 : (-(e' : Int) - -((max e e' : Nat) : Int)).toNat = max e e' - e' := by omega
  have htot : signed s m (max e e' - e) + signed t n (max e e' - e') = (a + b) * P2 (max e e') := by
    rw [signed_eq, signed_eq, h2, h2', Int.mul_assoc, Int.mul_assoc, ← P2_add, ← P2_add, Int.add_mul, show e + (max e e' - e) = max e e' by omega, show e' + (max e e' - e') = max e e' by omega]
  have hsum : (Datum.number s m (-(e : Int))).sum (.number t n (-(e' : Int))) = some (.number (if (a + b) * P2 (max e e') = 0 then s && t else decide ((a + b) * P2 (max e e') < 0)) ((a + b) * P2 (max e e')).natAbs (-((max e e' : Nat) : Int))) := by
    unfold Datum.sum
    simp only [hmn, e1, e2, htot]
  generalize hT : (a + b) * P2 (max e e') = T at hsum htot
  refine ⟨_, hsum, ⟨⟨_, _, _, rfl, ?_, ?_⟩⟩⟩
  · rw [hT]
    unfold sgn
    by_cases hz : T = 0
    · subst hz; simp
    · by_cases hn : T < 0
      · simp only [hz, hn, decide_true, if_true, if_false]; omega
      · simp only [hz, hn, decide_false, if_false, Bool.false_eq_true]; omega
  · intro hz
    have hz' : T = 0 := by omega
    rw [if_pos hz']
    have hab : a + b = 0 := mul_P2_zero.1 (hT.trans hz')
    by_cases hm : m = 0
    · rw [h3 hm]; rfl
    · cases s with
      | false => rfl
      | true =>
        cases t with
        | false => rfl
        | true =>
          exfalso
          have ha : a < 0 := by
            have : sgn true (m : Int) < 0 := by unfold sgn; simp; omega
            rw [h2] at this; exact mul_P2_neg.1 this
          have hb : ¬ 0 < b := by
            intro hb
            have h4 := Int.mul_pos hb (P2_pos e')
            rw [← h2'] at h4
            unfold sgn at h4; simp at h4; omega
          omega

theorem rep_opposite {d : Datum} {a : Int} (h : Rep d a) : Rep0 d.opposite (-a) := by
  obtain ⟨s, m, e, rfl, h2, _⟩ := h.out
  refine ⟨⟨!s, m, e, rfl, ?_⟩⟩
  rw [Int.neg_mul, ← h2]
  unfold sgn
  cases s <;> simp

theorem rep_product {d d' : Datum} {a b : Int} (h : Rep d a) (h' : Rep d' b) (hs : 0 ≤ a ∧ 0 ≤ b ∨ 0 < a) : ∃ r, d.product d' = some r ∧ Rep r (a * b) := by
  obtain ⟨s, m, e, rfl, h2, h3⟩ := h.out
  obtain ⟨t, n, e', rfl, h2', h3'⟩ := h'.out
  have hs0 : s = false := by
    cases s with
    | false => rfl
    | true =>
      by_cases hm : m = 0
      · exact h3 hm
      · exfalso
        have h4 : sgn true (m : Int) < 0 := by unfold sgn; simp; omega
        rw [h2, mul_P2_neg] at h4; omega
  subst hs0
  have hpl : -(e : Int) + -(e' : Int) = -((e + e' : Nat) : Int) := by omega
  refine ⟨.number (false ^^ t) (m * n) (-((e + e' : Nat) : Int)), by rw [← hpl]; rfl, ⟨⟨_, _, _, rfl, ?_, ?_⟩⟩⟩
  · rw [P2_add, show a * b * (P2 e * P2 e') = (a * P2 e) * (b * P2 e') by ac_rfl, ← h2, ← h2']
    unfold sgn
    cases t
    · simp
    · simp [Int.mul_neg]
  · intro hz
    cases t with
    | false => rfl
    | true =>
      have hn : n ≠ 0 := fun h => by have := h3' h; cases this
      have hm : m = 0 := by
        rcases Nat.mul_eq_zero.1 hz with h | h
        · exact h
        · exact absurd h hn
      subst hm
      exfalso
      have ha : a = 0 := by
        rw [← mul_P2_zero (e := e), ← h2]; rfl
      have h4 : sgn true (n : Int) < 0 := by unfold sgn; simp; omega
      rw [h2', mul_P2_neg] at h4
      omega

set_option maxRecDepth 100000 in
theorem fl_add {a b : Int} (ha : a.natAbs < 2 ^ 52) (hb : b.natAbs < 2 ^ 52) : floatBits .add .f64 (fl a) (fl b) = some (fl (a + b)) := by
  obtain ⟨r, h1, h2⟩ := rep_sum (rep_read (n := a) (by omega)) (rep_read (n := b) (by omega)).rep0
  show (((double.read (fl a)).sum (double.read (fl b))).map double.write) = _
  rw [h1, Option.map_some, write_rep h2 (by omega)]

set_option maxRecDepth 100000 in
theorem fl_sub {a b : Int} (ha : a.natAbs < 2 ^ 52) (hb : b.natAbs < 2 ^ 52) : floatBits .sub .f64 (fl a) (fl b) = some (fl (a - b)) := by
  obtain ⟨r, h1, h2⟩ := rep_sum (rep_read (n := a) (by omega)) (rep_opposite (rep_read (n := b) (by omega)))
  show (((double.read (fl a)).sum (double.read (fl b)).opposite).map double.write) = _
  rw [h1, Option.map_some, write_rep h2 (by omega)]; rfl

set_option maxRecDepth 100000 in
theorem fl_mul {a b : Int} (ha : a.natAbs < 2 ^ 53) (hb : b.natAbs < 2 ^ 53) (hab : (a * b).natAbs < 2 ^ 53) (hs : 0 ≤ a ∧ 0 ≤ b ∨ 0 < a) : floatBits .mul .f64 (fl a) (fl b) = some (fl (a * b)) := by
  obtain ⟨r, h1, h2⟩ := rep_product (rep_read (n := a) ha) (rep_read (n := b) hb) hs
  show (((double.read (fl a)).product (double.read (fl b))).map double.write) = _
  rw [h1, Option.map_some, write_rep h2 hab]

set_option maxHeartbeats 2000000 in
theorem core4 (n l q r E t U V D mag k kept st : Nat) (hl : l ≤ 17) (h1 : 2 ^ l ≤ n) (h2 : n < 2 ^ (l+1)) (hE : E = 2 ^ (59 - l)) (hn : n = 257 * q + r) (hr : r < 257)
   (hU : U = q * E) (hV : V = r * E) (ht : t = n * 2 ^ (17 - l)) (hD1 : 257 * D ≤ n * (8 * E)) (hD2 : n * (8 * E) < 257 * D + 257) (hst : st ≤ 1) (hst0 : n * (8 * E) = 257 * D → st = 0) (hm : mag = 2 * D + st) (hk : k ≤ 1) :
   (18014398509481984 ≤ mag ∧ mag < 72057594037927936) ∧
   (mag < 36028797018963968 → kept = mag / 4 + k → (k = 1 → 2 ≤ mag % 4) →
      4503599627370496 ≤ kept ∧ kept < 9007199254740992 ∧ 4 * U ≤ kept ∧ kept < 4 * U + 4 * E ∧ (kept = 4 * U ↔ r = 0)) ∧
   (36028797018963968 ≤ mag → kept = mag / 8 + k → (k = 1 → 4 ≤ mag % 8) →
      4503599627370496 ≤ kept ∧ kept < 9007199254740992 ∧ 2 * U ≤ kept ∧ kept < 2 * U + 2 * E ∧ (kept = 2 * U ↔ r = 0)) := by
  have hE1 : 4398046511104 ≤ E := by
    rw [hE]; exact Nat.pow_le_pow_right (n := 2) (by decide) (show 42 ≤ 59 - l by omega)
  have hnE : n * (8 * E) = 8 * (257 * U) + 8 * V := by
    rw [hU, hV, hn, show (257 * q + r) * (8 * E) = 8 * ((257 * q + r) * E) by ac_rfl, Nat.add_mul]
    rw [Nat.mul_add, show 257 * q * E = 257 * (q * E) by ac_rfl]
  have hnt : n * (8 * E) = 35184372088832 * t := by
    have e8 : 8 * E = 2 ^ (17 - l) * 35184372088832 := by
      rw [hE, show (8 : Nat) = 2 ^ 3 by rfl, show (35184372088832 : Nat) = 2 ^ 45 by rfl, ← Nat.pow_add, ← Nat.pow_add]; congr 1; omega
    rw [e8, ht]; ac_rfl
  have hlo : 4611686018427387904 ≤ n * (8 * E) := by
    have : 2 ^ l * (8 * E) = 4611686018427387904 := by
      rw [hE, show (8 : Nat) = 2 ^ 3 by rfl, ← Nat.pow_add, ← Nat.pow_add, show l + (3 + (59 - l)) = 62 by omega]
    rw [← this]; exact Nat.mul_le_mul_right _ h1
  have hhi : n * (8 * E) < 9223372036854775808 := by
    have : 2 ^ (l + 1) * (8 * E) = 9223372036854775808 := by
      rw [hE, show (8 : Nat) = 2 ^ 3 by rfl, ← Nat.pow_add, ← Nat.pow_add, show l + 1 + (3 + (59 - l)) = 63 by omega]
    rw [← this]; exact Nat.mul_lt_mul_of_pos_right h2 (by omega)
  have hV1 : V ≤ 256 * E := by rw [hV]; exact Nat.mul_le_mul_right _ (by omega)
  have hV2 : r = 0 → V = 0 := by intro h; rw [hV, h, Nat.zero_mul]
  have hV3 : r ≠ 0 → E ≤ V := by intro h; rw [hV]; exact Nat.le_mul_of_pos_left _ (by omega)
  generalize n * (8 * E) = A at *
  clear hU hV ht hn hE h1 h2
  subst hm
  refine ⟨by omega, ?_, ?_⟩
  · rintro hlt rfl hk1
    refine ⟨by omega, by omega, by omega, by omega, ?_⟩
    by_cases h0 : r = 0
    · have := hV2 h0; have hs := hst0 (by omega); simp only [h0, iff_true]; omega
    · have := hV3 h0; simp only [h0, iff_false]; omega
  · rintro hlt rfl hk1
    refine ⟨by omega, by omega, by omega, by omega, ?_⟩
    by_cases h0 : r = 0
    · have := hV2 h0; have hs := hst0 (by omega); simp only [h0, iff_true]; omega
    · have := hV3 h0; simp only [h0, iff_false]; omega

end Go.Proofs.Ythdaphnaehdnfaa.Fl
