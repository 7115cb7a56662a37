/- The plain laws of the whirls: what the printed functions answer, as arithmetic modulo 257. No program in sight. -/
import Derived.Test.YthdaphnaehdnfaaP2
import Derived.Test.YthdaphnaehdnfaaP3
import Derived.Test.YthdaphnaehdnfaaP4
import Derived.Test.YthdaphnaehdnfaaP6
namespace Go.Proofs.Ythdaphnaehdnfaa.PureSpin
open Go.RowKit Go.Proofs.Ythdaphnaehdnfaa.P Go.Proofs.Ythdaphnaehdnfaa.Sp Go.Proofs.YthdaphnaehdnfaaW.PrintWords Go.Proofs.YthdaphnaehdnfaaW.PrintLast Go.Proofs.YthdaphnaehdnfaaW.PrintMore

theorem rest_eq (n : Int) : moatref02_rest.f n = some (n % 257) := by
  unfold moatref02_rest.f
  rcases tmod_cases n with h | h
  · rw [if_neg (by omega), h]
  · by_cases h0 : n.tmod 257 < 0
    · rw [if_pos h0]; congr 1; unfold wrap64; omega
    · rw [if_neg h0]; congr 1; omega

theorem norm_eq (x y : Int) : moatref02_Norm.f x y = some (x % 257, y % 257) := by
  unfold moatref02_Norm.f; simp only [rest_eq, Option.bind_some]

theorem wrap_small {n : Int} (h : n.natAbs < 1000000) : wrap64 n = n := by unfold wrap64; omega

theorem rturn_eq (a b c d : Int) : moatref02_Turn.f a b c d = some (turnX a b c d % 257, turnY a b c d % 257) := by
  have h1 := mul_bound (x := a % 257) (y := c % 257) (by omega) (by omega)
  have h2 := mul_bound (x := b % 257) (y := d % 257) (by omega) (by omega)
  have h3 := mul_bound (x := a % 257) (y := d % 257) (by omega) (by omega)
  have h4 := mul_bound (x := b % 257) (y := c % 257) (by omega) (by omega)
  unfold moatref02_Turn.f turnX turnY
  simp only [norm_eq, Option.bind_some, rest_eq]
  rw [wrap_small (n := a % 257 * (c % 257)) (by omega), wrap_small (n := b % 257 * (d % 257)) (by omega), wrap_small (n := a % 257 * (d % 257)) (by omega), wrap_small (n := b % 257 * (c % 257)) (by omega),
    wrap_small (n := a % 257 * (c % 257) - b % 257 * (d % 257)) (by omega), wrap_small (n := a % 257 * (d % 257) + b % 257 * (c % 257)) (by omega)]

theorem rpush_eq (a b c d : Int) : moatref02_Push.f a b c d = some ((a % 257 + c % 257) % 257, (b % 257 + d % 257) % 257) := by
  unfold moatref02_Push.f
  simp only [norm_eq, Option.bind_some, rest_eq]
  rw [wrap_small (n := a % 257 + c % 257) (by omega), wrap_small (n := b % 257 + d % 257) (by omega)]

theorem shown_eq : moatlaw02_shown.f = some true := by decide

theorem few_eq (s : ByteArray) : ∃ r, moatlaw02_few.f s = some r ∧ r.size ≤ 20000 := by
  unfold moatlaw02_few.f
  have h : 0 ≤ mn (s.size : Int) 20000 ∧ mn (s.size : Int) 20000 ≤ s.size ∧ mn (s.size : Int) 20000 ≤ 20000 := by unfold mn; split <;> omega
  rw [if_pos h.1, if_pos h.2.1]
  refine ⟨_, rfl, ?_⟩
  simp only [ByteArray.size_extract]
  omega

theorem more_eq (x y : Int) (s : ByteArray) (h : s.size ≤ 20000) : spin_More.f x y s = some (moreL x y s.data.toList) := by
  unfold spin_More.f
  rw [if_pos (by unfold maxLen; omega)]

theorem of_eq (s : ByteArray) (h : s.size ≤ 20000) : spin_Of.f s = some (moreL 1 0 s.data.toList) := by
  unfold spin_Of.f
  rw [more_eq _ _ _ h, Option.bind_some]

theorem bt_get (s : ByteArray) (k : Nat) (h : k < s.size) : bt s (k : Int) = (s[k].toNat : Int) := by
  unfold bt
  rw [dif_pos (by simpa using h)]; simp

theorem wrap_byte (s : ByteArray) (i : Int) : wrap64 (bt s i) = bt s i := by
  have := bt_range s i
  unfold wrap64; omega

/-- One round of the reference's loop. -/
theorem rmore_step (x y : Int) (c : Int) (hc : 0 ≤ c ∧ c ≤ 255) (hx : 0 ≤ x ∧ x < 257) (hy : 0 ≤ y ∧ y < 257) :
    ((moatref02_Turn.f x y 3 2).bind fun t => moatref02_Push.f t.1 t.2 (wrap64 (c + 1)) (Int.tmod c 7)) = some ((x * 3 - y * 2 + (c + 1)) % 257, (x * 2 + y * 3 + c % 7) % 257) := by
  rw [rturn_eq, Option.bind_some, rpush_eq]
  unfold turnX turnY
  have e1 : x % 257 = x := by omega
  have e2 : y % 257 = y := by omega
  have e3 : wrap64 (c + 1) = c + 1 := by unfold wrap64; omega
  have e4 : Int.tmod c 7 = c % 7 := by
    obtain ⟨n, rfl⟩ := Int.eq_ofNat_of_zero_le hc.1; rfl
  simp only [e1, e2, e3, e4, Option.some.injEq, Prod.mk.injEq]
  omega

theorem rmore_loop (s : ByteArray) (hs : s.size ≤ 20000) (d : Nat) : ∀ (k i : Nat) (x y : Int), (0 ≤ x ∧ x < 257) → (0 ≤ y ∧ y < 257) → i + d = s.size → d < k →
    moatref02_More.l0 k s i x y = some ((s.data.toList.drop i).foldl stepM (x, y)) := by
  induction d with
  | zero =>
    intro k i x y hx hy hd hk
    obtain ⟨k, rfl⟩ : ∃ m, k = m + 1 := ⟨k - 1, by omega⟩
    simp only [moatref02_More.l0]
    rw [if_neg (by omega), List.drop_of_length_le (by simp; omega)]; rfl
  | succ d ih =>
    intro k i x y hx hy hd hk
    obtain ⟨k, rfl⟩ : ∃ m, k = m + 1 := ⟨k - 1, by omega⟩
    have hlt : i < s.size := by omega
    have hst := rmore_step x y (bt s i) (bt_range s i) hx hy
    simp only [moatref02_More.l0]
    rw [if_pos (by omega)]
    rw [wrap_byte]
    obtain ⟨⟨t1, t2⟩, ht⟩ : ∃ t, moatref02_Turn.f x y 3 2 = some t := ⟨_, rturn_eq _ _ _ _⟩
    rw [ht, Option.bind_some] at hst
    rw [ht, Option.bind_some, if_pos (by omega)]
    rw [hst, Option.bind_some]
    have hw : wrap64 ((i : Int) + 1) = ((i + 1 : Nat) : Int) := by unfold wrap64; omega
    rw [hw, ih k (i + 1) _ _ (by omega) (by omega) (by omega) (by omega)]
    rw [List.drop_eq_getElem_cons (i := i) (by simpa using hlt), List.foldl_cons]
    congr 2
    unfold stepM
    rw [bt_get s i hlt]; rfl

theorem rmore_eq (x y : Int) (s : ByteArray) (hs : s.size ≤ 20000) : moatref02_More.f 20001 x y s = some (moreL x y s.data.toList) := by
  unfold moatref02_More.f
  rw [norm_eq, Option.bind_some]
  have := rmore_loop s hs s.size 20001 0 (x % 257) (y % 257) (by omega) (by omega) (by omega) (by omega)
  rw [List.drop_zero] at this
  exact this

theorem rof_eq (s : ByteArray) (hs : s.size ≤ 20000) : moatref02_Of.f 20001 s = some (moreL 1 0 s.data.toList) := by
  unfold moatref02_Of.f
  rw [rmore_eq _ _ _ hs, Option.bind_some]

theorem right_eq (x y : Int) : spin_Right.f x y = some (decide (0 ≤ x ∧ x < 257 ∧ 0 ≤ y ∧ y < 257)) := by
  unfold spin_Right.f
  by_cases h1 : x ≥ 0
  · rw [if_pos h1]
    by_cases h2 : x < 257
    · rw [if_pos h2]
      by_cases h3 : y ≥ 0
      · rw [if_pos h3]; congr 1; rw [decide_eq_decide]; omega
      · rw [if_neg h3]; congr 1; symm; rw [decide_eq_false_iff_not]; omega
    · rw [if_neg h2]; congr 1; symm; rw [decide_eq_false_iff_not]; omega
  · rw [if_neg h1]; congr 1; symm; rw [decide_eq_false_iff_not]; omega

theorem rbits_eq (x y : Int) : moatref02_Bits.f x y = some ((x % 257 + 16 * (y % 257)) % 256) := by
  unfold moatref02_Bits.f
  rw [norm_eq, Option.bind_some]
  dsimp only
  rw [wrap_small (n := 16 * (y % 257)) (by omega), wrap_small (n := x % 257 + 16 * (y % 257)) (by omega)]
  congr 1
  obtain ⟨n, hn⟩ := Int.eq_ofNat_of_zero_le (show 0 ≤ x % 257 + 16 * (y % 257) by omega)
  rw [hn]
  have : Int.tmod (n : Int) 256 = (n : Int) % 256 := rfl
  omega

end Go.Proofs.Ythdaphnaehdnfaa.PureSpin
