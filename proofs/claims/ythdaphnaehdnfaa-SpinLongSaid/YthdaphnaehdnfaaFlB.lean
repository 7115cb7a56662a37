/- The floor of a quotient by 257 of small whole numbers, as float64 words, is the whole quotient. Plain: no program in sight. Condition: the number is below 2^18. -/
import Derived.Test.YthdaphnaehdnfaaFlA
namespace Go.Proofs.Ythdaphnaehdnfaa.Fl
open Ieee

theorem cut_down (s : Bool) (n d : Nat) : Toward.down.cut s n d = n / 2 ^ d + (s && n % 2 ^ d != 0).toNat := by
  have hlt := @Nat.lt_log2_self n
  unfold Toward.cut
  simp only [Nat.shiftLeft_eq, Nat.one_mul]
  by_cases h : d ≤ n.log2 + 2
  · rw [Nat.min_eq_left h]
  · rw [Nat.min_eq_right (by omega)]
    have h1 : n < 2 ^ (n.log2 + 2) := Nat.lt_of_lt_of_le hlt (Nat.pow_le_pow_right (by decide) (by omega))
    have h2 : n < 2 ^ d := Nat.lt_of_lt_of_le h1 (Nat.pow_le_pow_right (by decide) (by omega))
    rw [Nat.div_eq_of_lt h1, Nat.div_eq_of_lt h2, Nat.mod_eq_of_lt h1, Nat.mod_eq_of_lt h2]

/-- The nearest even cut: what it is, told by one bit. -/
theorem cut_even (s : Bool) (n d : Nat) (hd : d ≤ n.log2 + 2) : ∃ k, k ≤ 1 ∧ Toward.even.cut s n d = n / 2 ^ d + k ∧ (k = 1 → 2 ^ d ≤ 2 * (n % 2 ^ d)) := by
  refine ⟨_, ?_, by unfold Toward.cut; simp only [Nat.shiftLeft_eq, Nat.one_mul, Nat.min_eq_left hd]; rfl, ?_⟩
  · exact Bool.toNat_le _
  · intro h
    have h' := Bool.toNat_eq_one.1 h
    simp only [Bool.or_eq_true, Bool.and_eq_true, decide_eq_true_eq, beq_iff_eq] at h'
    omega

/-- What becomes of a quotient that is cut downwards, told in whole numbers: mag * 2 ^ (l - 63), of about 2 ^ 54 or 2 ^ 55. -/
theorem floor_of_nearest (s : Bool) (mag l g kept q E u : Nat) (hl : l ≤ 17) (hg : g = 2 ∨ g = 3) (hlog : mag.log2 = 52 + g)
    (hcut : Toward.even.cut s mag g = kept) (hk1 : 4503599627370496 ≤ kept) (hk2 : kept < 9007199254740992)
    (hE : E = 2 ^ (63 - l - g)) (hq1 : q * E ≤ kept) (hq2 : kept < (q + 1) * E) (hu : u = (s && decide (kept ≠ q * E)).toNat) :
    ∃ m i, double.read (double.nearest s mag ((l : Int) - 63)) = .number s m i ∧ (Datum.number s m i).integral .down = .number s (q + u) 0 := by
  have hz : mag ≠ 0 := by intro h; rw [h] at hlog; simp [Nat.log2_zero] at hlog; omega
  have hn : double.nearest s mag ((l : Int) - 63) = double.word s ((l + g + 1011) * 4503599627370496 + kept) := by
    unfold Format.nearest
    rw [if_neg hz, least, infr, bin, hlog]
    have hf : double.fractionBits = 52 := rfl
    have hlast : max ((l : Int) - 63 + ((52 + g : Nat) : Int) - ((double.fractionBits : Nat) : Int)) (-1074) = (l : Int) + g - 63 := by rw [hf]; omega
    simp only [hlast]
    have e1 : ((l : Int) - 63 - ((l : Int) + g - 63)).toNat = 0 := by omega
    have e2 : ((l : Int) + g - 63 - ((l : Int) - 63)).toNat = g := by omega
    have e3 : ((l : Int) + g - 63 - -1074).toNat = l + g + 1011 := by omega
    rw [e1, e2, e3, Nat.shiftLeft_eq, Nat.pow_zero, Nat.mul_one, hcut, Nat.min_eq_left (by omega)]
  refine ⟨kept, (l : Int) + g - 63, ?_, ?_⟩
  · rw [hn, read_word _ _ _ hk1 hk2 (by omega), show ((l + g + 1011 : Nat) : Int) - 1074 = (l : Int) + g - 63 by omega]
  · unfold Datum.integral
    have e1 : ((l : Int) + g - 63).toNat = 0 := by omega
    have e2 : (-((l : Int) + g - 63)).toNat = 63 - l - g := by omega
    simp only [e1, e2, Nat.shiftLeft_eq, Nat.pow_zero, Nat.mul_one, cut_down, ← hE]
    have hE0 : 0 < E := by rw [hE]; exact Nat.two_pow_pos _
    have hdiv : kept / E = q := by
      rw [Nat.div_eq_iff hE0]; rw [Nat.add_mul] at hq2; omega
    have hmod : kept % E = kept - q * E := by
      have := Nat.div_add_mod kept E
      rw [hdiv, Nat.mul_comm] at this; omega
    rw [hdiv, hmod, hu]
    have hb : (kept - q * E != 0) = decide (kept ≠ q * E) := by
      by_cases h : kept = q * E
      · rw [h, Nat.sub_self]; simp
      · have h' : kept - q * E ≠ 0 := by omega
        rw [bne_iff_ne.2 h', decide_eq_true h]
    rw [hb]

theorem fl257 : double.read (fl 257) = .number false (257 * 2 ^ 44) (-44) := by decide
theorem log257 : (257 * 2 ^ 44).log2 = 52 := by decide
theorem zero257 : double.div 0 (fl 257) = some 0 := by decide

theorem fin_of (f : Int) (s : Bool) (n q r u : Nat) (hn : n = f.natAbs) (hnb : n < 262144) (h0 : f ≠ 0) (hs : s = decide (f < 0)) (hq : q = n / 257) (hr : r = n % 257)
    (hu : u = (s && decide (r ≠ 0)).toNat) : double.write (.number s (q + u) 0) = fl (f / 257) := by
  have hu1 : u ≤ 1 := by rw [hu]; exact Bool.toNat_le _
  have hu2 : f < 0 → (r = 0 → u = 0) ∧ (r ≠ 0 → u = 1) := by
    intro h
    rw [hu, hs, decide_eq_true h, Bool.true_and]
    exact ⟨fun h => by rw [decide_eq_false (by omega)]; rfl, fun h => by rw [decide_eq_true h]; rfl⟩
  have hu3 : ¬ f < 0 → u = 0 := by
    intro h
    rw [hu, hs, decide_eq_false h, Bool.false_and]; rfl
  clear hu
  refine write_rep ⟨⟨s, q + u, 0, rfl, ?_, ?_⟩⟩ (by omega)
  · have : P2 0 = 1 := rfl
    rw [this, Int.mul_one]
    unfold sgn
    by_cases hneg : f < 0
    · have := hu2 hneg
      rw [hs, decide_eq_true hneg, if_pos rfl]; omega
    · have := hu3 hneg
      rw [hs, decide_eq_false hneg, if_neg (by decide)]; omega
  · intro hz
    by_cases hneg : f < 0
    · exfalso
      have := hu2 hneg
      omega
    · rw [hs, decide_eq_false hneg]

theorem floor_of_core (s : Bool) (mag l q r : Nat) (g : Nat) (hl : l ≤ 17) (hg : g = 2 ∨ g = 3) (hlog : mag.log2 = 52 + g)
    (hc : ∀ k kept, k ≤ 1 → kept = mag / 2 ^ g + k → (k = 1 → 2 ^ g ≤ 2 * (mag % 2 ^ g)) → 4503599627370496 ≤ kept ∧ kept < 9007199254740992 ∧ q * 2 ^ (63 - l - g) ≤ kept ∧ kept < (q + 1) * 2 ^ (63 - l - g) ∧ (kept = q * 2 ^ (63 - l - g) ↔ r = 0)) :
    ∃ m i, double.read (double.nearest s mag ((l : Int) - 63)) = .number s m i ∧ (Datum.number s m i).integral .down = .number s (q + (s && decide (r ≠ 0)).toNat) 0 := by
  obtain ⟨k, hk, hcut, hk1⟩ := cut_even s mag g (by omega)
  obtain ⟨c1, c2, c3, c4, c5⟩ := hc k _ hk hcut hk1
  obtain ⟨m, i, hm, hi⟩ := floor_of_nearest s mag l g _ q _ _ hl hg hlog rfl c1 c2 rfl c3 c4 rfl
  have hd : decide (Toward.even.cut s mag g ≠ q * 2 ^ (63 - l - g)) = decide (r ≠ 0) := decide_eq_decide.2 (not_congr c5)
  exact ⟨m, i, hm, by rw [hi, hd]⟩

theorem core2 (n l q r : Nat) (hl : l ≤ 17) (h1 : 2 ^ l ≤ n) (h2 : n < 2 ^ (l+1)) (hq : q = n / 257) (hr : r = n % 257) (D mag st : Nat) (hD : D = n * (8 * 2 ^ (59 - l)) / 257) (hst : st ≤ 1) (hst0 : n * (8 * 2 ^ (59 - l)) = 257 * D → st = 0) (hm : mag = 2 * D + st) :
    (18014398509481984 ≤ mag ∧ mag < 72057594037927936) ∧
    (mag < 36028797018963968 → ∀ k kept, k ≤ 1 → kept = mag / 2 ^ 2 + k → (k = 1 → 2 ^ 2 ≤ 2 * (mag % 2 ^ 2)) → 4503599627370496 ≤ kept ∧ kept < 9007199254740992 ∧ q * 2 ^ (63 - l - 2) ≤ kept ∧ kept < (q + 1) * 2 ^ (63 - l - 2) ∧ (kept = q * 2 ^ (63 - l - 2) ↔ r = 0)) ∧
    (36028797018963968 ≤ mag → ∀ k kept, k ≤ 1 → kept = mag / 2 ^ 3 + k → (k = 1 → 2 ^ 3 ≤ 2 * (mag % 2 ^ 3)) → 4503599627370496 ≤ kept ∧ kept < 9007199254740992 ∧ q * 2 ^ (63 - l - 3) ≤ kept ∧ kept < (q + 1) * 2 ^ (63 - l - 3) ∧ (kept = q * 2 ^ (63 - l - 3) ↔ r = 0)) := by
  have e2 : 2 ^ (63 - l - 2) = 4 * 2 ^ (59 - l) := by
    rw [show 4 * 2 ^ (59 - l) = 2 ^ 2 * 2 ^ (59 - l) by rfl, ← Nat.pow_add]; congr 1; omega
  have e3 : 2 ^ (63 - l - 3) = 2 * 2 ^ (59 - l) := by
    rw [show 2 * 2 ^ (59 - l) = 2 ^ 1 * 2 ^ (59 - l) by rfl, ← Nat.pow_add]; congr 1; omega
  have hD1 : 257 * D ≤ n * (8 * 2 ^ (59 - l)) := by rw [hD]; exact Nat.mul_div_le _ _
  have hD2 : n * (8 * 2 ^ (59 - l)) < 257 * D + 257 := by
    rw [hD]; exact Nat.lt_mul_div_succ _ (by decide)
  have hc := fun k kept hk => core4 n l q r (2 ^ (59 - l)) _ _ _ D mag k kept st hl h1 h2 rfl (by rw [hq, hr]; exact (Nat.div_add_mod n 257).symm) (by rw [hr]; exact Nat.mod_lt _ (by decide)) rfl rfl rfl hD1 hD2 hst hst0 hm hk
  clear hD1 hD2 hD hst0 hm h1 h2 hq hr
  generalize 2 ^ (59 - l) = E at *
  refine ⟨(hc 0 0 (by decide)).1, fun hb k kept hk h3 h4 => ?_, fun hb k kept hk h3 h4 => ?_⟩
  · obtain ⟨c1, c2, c3, c4, c5⟩ := (hc k kept hk).2.1 hb h3 (by intro h; have := h4 h; clear hc; omega)
    clear hc
    rw [e2, Nat.add_mul, show q * (4 * E) = 4 * (q * E) by ac_rfl, Nat.one_mul]
    exact ⟨c1, c2, c3, c4, c5⟩
  · obtain ⟨c1, c2, c3, c4, c5⟩ := (hc k kept hk).2.2 hb h3 (by intro h; have := h4 h; clear hc; omega)
    clear hc
    rw [e3, Nat.add_mul, show q * (2 * E) = 2 * (q * E) by ac_rfl, Nat.one_mul]
    exact ⟨c1, c2, c3, c4, c5⟩

theorem quotient_of (s : Bool) (n l A : Nat) (hl : l ≤ 17) (hMl : (n * 2 ^ (52 - l)).log2 = 52) (hA : A = n * (8 * 2 ^ (59 - l))) :
    (Datum.number s (n * 2 ^ (52 - l)) (((l + 1022 : Nat) : Int) - 1074)).quotient (double.fractionBits + 2) (double.read (fl 257)) = some (.number s (2 * (A / 257) + (A % 257 != 0).toNat) ((l : Int) - 63)) := by
  have hdvd : (n * 2 ^ (52 - l)) <<< 54 = A * 2 ^ 44 := by
    rw [Nat.shiftLeft_eq, hA, show (8 : Nat) = 2 ^ 3 by rfl, Nat.mul_assoc, Nat.mul_assoc, ← Nat.pow_add, ← Nat.pow_add, ← Nat.pow_add, show 52 - l + 54 = 3 + (59 - l) + 44 by omega]
  rw [fl257]
  unfold Datum.quotient
  have hfr : double.fractionBits + 2 = 54 := rfl
  simp only [hMl, log257, hfr]
  rw [if_neg (by decide)]
  have e1 : 54 + 52 - 52 = 54 := rfl
  rw [e1, hdvd, Nat.mul_div_mul_right _ _ (Nat.two_pow_pos 44), Nat.mul_mod_mul_right]
  have e2 : (A % 257 * 2 ^ 44 != 0) = (A % 257 != 0) := by
    rw [Bool.eq_iff_iff]; simp only [bne_iff_ne, ne_eq]
    have := Nat.two_pow_pos 44
    constructor
    · intro h h'; exact h (by rw [h', Nat.zero_mul])
    · intro h h'
      rcases Nat.mul_eq_zero.1 h' with h'' | h''
      · exact h h''
      · omega
  rw [e2, Bool.xor_false, show ((l + 1022 : Nat) : Int) - 1074 - -44 - ((54 : Nat) : Int) - 1 = (l : Int) - 63 by omega]

set_option maxRecDepth 100000 in
theorem fl_floor (f : Int) (hf : f.natAbs < 262144) : ∃ r, floatBits .quo .f64 (fl f) (fl 257) = some r ∧ ∃ s m i, double.read r = .number s m i ∧ double.write ((Datum.number s m i).integral .down) = fl (f / 257) := by
  by_cases h0 : f = 0
  · subst h0
    refine ⟨0, by rw [fl_zero]; exact zero257, false, 0, -1074, read_zero, by decide⟩
  · obtain ⟨n, hn⟩ : ∃ n, n = f.natAbs := ⟨_, rfl⟩
    have hn0 : n ≠ 0 := by omega
    have hnb : n < 262144 := by omega
    obtain ⟨l, hll⟩ : ∃ l, l = n.log2 := ⟨_, rfl⟩
    have hl : l ≤ 17 := by
      have := (Nat.log2_lt (k := 18) hn0).2 (by omega)
      omega
    have h1 := Nat.log2_self_le hn0
    have h2 := @Nat.lt_log2_self n
    have hMl : (n * 2 ^ (52 - l)).log2 = 52 := by rw [log2_mul_pow _ _ hn0]; omega
    rw [← hll] at h1 h2
    obtain ⟨s, hs⟩ : ∃ s, s = decide (f < 0) := ⟨_, rfl⟩
    have hread : double.read (fl f) = .number s (n * 2 ^ (52 - l)) (((l + 1022 : Nat) : Int) - 1074) := by
      have hM := mag_range hn0 (by omega : n < 2 ^ 53)
      rw [hll, fl_ne h0 (by omega), rung, ← hn, read_word _ _ _ hM.1 hM.2 (by omega), hs]
    obtain ⟨A, hA⟩ : ∃ A, A = n * (8 * 2 ^ (59 - l)) := ⟨_, rfl⟩
    have hquo := quotient_of s n l A hl hMl hA
    rw [← hread] at hquo
    obtain ⟨mag, hmag⟩ : ∃ mag, mag = 2 * (A / 257) + (A % 257 != 0).toNat := ⟨_, rfl⟩
    rw [← hmag] at hquo
    have hst0 : A = 257 * (A / 257) → (A % 257 != 0).toNat = 0 := by
      intro h
      have : A % 257 = 0 := by clear hquo hread hMl h1 h2 hf hmag; omega
      rw [this]; rfl
    have hc := core2 n l (n / 257) (n % 257) hl h1 h2 rfl rfl (A / 257) mag _ (by rw [hA]) (Bool.toNat_le _) (by rw [← hA]; exact hst0) hmag
    have hex : ∃ m i, double.read (double.nearest s mag ((l : Int) - 63)) = .number s m i ∧ (Datum.number s m i).integral .down = .number s (n / 257 + (s && decide (n % 257 ≠ 0)).toNat) 0 := by
      clear hquo hread hMl h1 h2 hf hmag hst0 hA hs hn hn0 hnb h0 hll
      by_cases hbig : mag < 36028797018963968
      · exact floor_of_core s mag l _ _ 2 hl (.inl rfl) (log2_of (by have := hc.1; omega) (by omega)) (hc.2.1 hbig)
      · exact floor_of_core s mag l _ _ 3 hl (.inr rfl) (log2_of (by omega) (by have := hc.1; omega)) (hc.2.2 (by omega))
    obtain ⟨m, i, hm, hi⟩ := hex
    refine ⟨double.nearest s mag ((l : Int) - 63), ?_, s, m, i, hm, ?_⟩
    · show (((double.read (fl f)).quotient (double.fractionBits + 2) (double.read (fl 257))).map double.write) = _
      rw [hquo]; rfl
    · rw [hi]
      exact fin_of f s n _ _ _ hn hnb h0 hs rfl rfl rfl

end Go.Proofs.Ythdaphnaehdnfaa.Fl
