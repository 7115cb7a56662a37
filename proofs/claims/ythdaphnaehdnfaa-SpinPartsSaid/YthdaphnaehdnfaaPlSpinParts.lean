/- The statement SpinParts' walk: the whirl of two texts, one behind the other. No condition. -/
import Derived.Test.YthdaphnaehdnfaaSpLaw
namespace Go.Proofs.Ythdaphnaehdnfaa
open Go.RowKit Go.Proofs.Ythdaphnaehdnfaa.P Go.Proofs.Ythdaphnaehdnfaa.Sp Go.Proofs.Ythdaphnaehdnfaa.PureSpin

theorem moreL_append (x y : Int) (l m : List UInt8) : moreL x y (l ++ m) = moreL (moreL x y l).1 (moreL x y l).2 m := by
  have h := moreL_range x y l
  have e1 : (moreL x y l).1 % 257 = (moreL x y l).1 := by omega
  have e2 : (moreL x y l).2 % 257 = (moreL x y l).2 := by omega
  show (l ++ m).foldl stepM (x % 257, y % 257) = m.foldl stepM ((moreL x y l).1 % 257, (moreL x y l).2 % 257)
  rw [e1, e2, List.foldl_append]
  rfl

set_option maxHeartbeats 1000000 in
theorem SpinParts_walk (s : ByteArray) (_hs : s.size ≤ 140737488351232) (t : ByteArray) (_ht : t.size ≤ 140737488351232) (w : World) :
    Calls Try.prog 4 #[.string s, .string t] w fun e w' => e = .returned (.bool true) ∧ Below w.heap.size w w' := by
  obtain ⟨a, ha, has⟩ := few_eq s
  obtain ⟨b, hb, hbs⟩ := few_eq t
  have hab : (a ++ b).size ≤ 40000 := by rw [ByteArray.size_append]; omega
  have ho : spin_Of.f (a ++ b) = some (moreL 1 0 (a.data.toList ++ b.data.toList)) := by
    unfold spin_Of.f spin_More.f
    rw [if_pos (by unfold maxLen; omega), Option.bind_some, ByteArray.data_append, Array.toList_append]
  have hoa := of_eq a has
  have hmb := more_eq (moreL 1 0 a.data.toList).1 (moreL 1 0 a.data.toList).2 b hbs
  rw [moreL_append] at ho
  generalize moreL (moreL 1 0 a.data.toList).1 (moreL 1 0 a.data.toList).2 b.data.toList = q at ho hmb
  generalize moreL 1 0 a.data.toList = p at hoa hmb
  obtain ⟨q1, q2⟩ := q
  obtain ⟨p1, p2⟩ := p
  dsimp only at hmb
  have HA := Lib.hid ha
  have HB := Lib.hid hb
  have HO := Lib.hid ho
  have HOA := Lib.hid hoa
  have HMB := Lib.hid hmb
  clear ha hb ho hoa hmb
  go_enter Try.func4, Try.ntmps4
  go_wp2_with fail
  refine (moatlaw02_shown.calls true _ shown_eq).mono ?_
  rintro e w1 ⟨rfl, hb1⟩
  go_wp2_with fail
  refine (moatlaw02_few.calls s a _ HA.out).mono ?_
  rintro e w2 ⟨rfl, hb2⟩
  go_wp2_with fail
  refine (moatlaw02_few.calls t b _ HB.out).mono ?_
  rintro e w3 ⟨rfl, hb3⟩
  go_wp2_with fail
  refine (spin_Of.calls _ _ _ _ HO.out).mono ?_
  rintro e w4 ⟨rfl, hb4⟩
  go_wp2_with fail
  refine (moatlaw02_few.calls s a _ HA.out).mono ?_
  rintro e w5 ⟨rfl, hb5⟩
  go_wp2_with fail
  refine (spin_Of.calls _ _ _ _ HOA.out).mono ?_
  rintro e w6 ⟨rfl, hb6⟩
  go_wp2_with fail
  refine (moatlaw02_few.calls t b _ HB.out).mono ?_
  rintro e w7 ⟨rfl, hb7⟩
  go_wp2_with fail
  refine (spin_More.calls _ _ _ _ _ _ HMB.out).mono ?_
  rintro e w8 ⟨rfl, hb8⟩
  have h1 := hb1.size
  have h2 := hb2.size
  have h3 := hb3.size
  have h4 := hb4.size
  have h5 := hb5.size
  have h6 := hb6.size
  have h7 := hb7.size
  have hB : Below w.heap.size w w8 := hb1.trans ((hb2.mono (by omega)).trans ((hb3.mono (by omega)).trans ((hb4.mono (by omega)).trans ((hb5.mono (by omega)).trans ((hb6.mono (by omega)).trans ((hb7.mono (by omega)).trans (hb8.mono (by omega))))))))
  go_wp2
  go_ret
  exact ⟨rfl, hB⟩

end Go.Proofs.Ythdaphnaehdnfaa
