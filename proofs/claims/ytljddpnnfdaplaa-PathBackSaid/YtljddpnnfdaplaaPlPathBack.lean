/- PathBack: walk and plain law. -/
import Derived.Test.YtljddpnnfdaplaaPlPathJoins
namespace Go.Proofs.Ytljddpnnfdaplaa.Pl
open Go.RowKit Go.Proofs.Ytljddpnnfdaplaa.Rt Go.Proofs.Ytljddpnnfdaplaa.Pa Go.Proofs.Ytljddpnnfdaplaa.Jo Go.Proofs.YtljddpnnfdaplaaW.PrintWords Go.Proofs.YtljddpnnfdaplaaW.PrintLast Go.Proofs.YtljddpnnfdaplaaW.PrintMore
set_option linter.unusedVariables false
set_option linter.unusedSimpArgs false

theorem path_len {s : ByteArray} {l : List ByteArray} (h : parseO (bs s) = some l) : s = ba (pathOf l) ∧ goodB l = true := by
  obtain ⟨h1, h2⟩ := (parse_iff _ _).1 h
  exact ⟨by rw [← h2]; exact (ba_bs s).symm, h1⟩
theorem snoc_last (n : List ByteArray) (hn : n ≠ []) : n.dropLast ++ [n.getLastD ByteArray.empty] = n := by
  cases n with
  | nil => exact absurd rfl hn
  | cons y n =>
    have h : (y :: n).getLastD ByteArray.empty = (y :: n).getLast (by simp) := by simp [List.getLastD]
    rw [h]
    exact List.dropLast_concat_getLast _
section
variable {P : Program} {ops : Array Oper} {rest : List Oper} {o : Oper} {a : Act} {Q : Exit → Act → World → Prop} {α : Type}
theorem R_append_g (d : Kd α) {w0 W : World} (base : Nat) (hw : Region.wanted o (yielded ops a.tmps) = true) (s x : Operand) (t e : TypeId) (z : Value) (bytes : Nat)
    (ho : o.op = .call { callee := .builtin .append, args := #[s, x], argTypes := #[t, t] })
    (ht : P.underlying t = some (.slice e)) (hinfo : (P.info? e).map (fun i => (i.zero, i.size, i.bytes)) = some (some z, d.sz, bytes)) (hz : z.cells.size = d.sz) (hs0 : 0 < d.sz) (hb0 : 0 < bytes)
    (v : Value) (xs : List α) (p : α) (cs : List Value) (ok okp : Nat → Prop) (hs : a.eval s = v) (hx : a.eval x = .slice (some ⟨W.heap.size, 0, none⟩) 1 1) (hp : d.M W base okp p cs) (hokp : ∀ k, okp k → ok k ∧ some k ≠ v.ownBlock) (hfresh : ∀ k, W.heap.size ≤ k → ok k)
    (HO : d.R e W base ok v xs) (HB : Below base w0 W) (hbase : base ≤ W.heap.size) (hl : (xs.length + 1) * bytes ≤ 140737488355328)
    (h : ∀ v1 w1, d.R e w1 base ok v1 (xs ++ [p]) → Below base w0 w1 → W.grownBy w1 v.ownBlock → (v1.ownBlock = v.ownBlock ∨ ∃ b, v1.ownBlock = some b ∧ W.heap.size ≤ b) → wpList P ops Q rest (a.put o.dst v1) w1) :
    wpList P ops Q (o :: rest) a (W.alloc (.cells cs.toArray e)) := by
  have k := Kd.R_append_step (Kc := wpList P ops Q rest) (Q := Q) d base hw s x t e z bytes ho ht hinfo hz hs0 hb0 v xs p cs ok okp hs hx hp hokp hfresh HO HB hbase hl h
  rw [if_pos hw] at k
  simp only [wpList, hw, if_true]
  exact .inl k
end
theorem p_nil : parseO [] = none := by simp [parseO, nameO]
theorem ba_ok {l : List ByteArray} (h : goodB l = true) : (ba (pathOf l)).size ≤ 140737488351232 := by rw [ba_size]; have := pathOf_len h; omega

set_option maxHeartbeats 8000000 in
set_option maxRecDepth 100000 in
theorem back_good_none (A0 : Option Addr) (c0 : Nat) (l0 : List ByteArray) (s : ByteArray) (w : World) (hr0 : Kd.C Kd.string w A0 l0.length l0) (hc0 : l0.length ≤ c0)
    (t : List ByteArray) (ht1 : (joinB t).length ≤ 3030) (ht2 : t.length ≤ 30) (ht3 : t.length ≤ c0) (htC : ∀ w, Kd.C Kd.string w A0 l0.length l0 → Kd.C Kd.string w A0 t.length t)
    (htS : ∀ w, Kd.C Kd.string w A0 l0.length l0 → Calls Try.prog 17 #[.slice A0 l0.length c0] w fun e w' => e = .returned (.slice A0 t.length c0) ∧ Drawn0 w w')
    (u : ByteArray) (hu : P.moatlaw13_few.f s = some u) (hus : u.size ≤ 1000) (hg : goodB t = true) (ho : parseO (bs u) = none) :
    Calls Try.prog 5 #[.slice A0 l0.length c0, .string s] w fun e w' => e = .returned (.bool true) ∧ Below w.heap.size w w' := by
  have HR := Lib.hid hr0
  have HC := Lib.hid htC
  have HS := Lib.hid htS
  have HU := Lib.hid hu
  have HO := Lib.hid ho
  have HG := Lib.hid hg
  clear htC htS hr0 hu ho hg
  have HT : Hid (P.moatlaw13_shown.f 5 = some true) := Lib.hid (shown_f 5 (by omega))
  obtain ⟨jx, hjx⟩ : ∃ jx, jx = ba (pathOf t) := ⟨_, rfl⟩
  have HA : Hid (P.path_Join.f t = some (jx, 0)) := Lib.hid (by rw [hjx]; exact join_good HG.out)
  have HP : Hid (P.path_Parse.f jx = some (t, 0)) := Lib.hid (by rw [hjx, parse_f _ (ba_ok HG.out), bs_ba, parse_path HG.out]; rfl)
  have HSame : Hid (P.moatref13_Same.f 40 t t = some true) := Lib.hid (by rw [same_f t t (by omega) 40 (by omega)]; simp)
  clear hjx
  obtain ⟨b, hb⟩ : ∃ b, b = ba (pathOf []) := ⟨_, rfl⟩
  have HPU : Hid (P.path_Parse.f u = some (([] : List ByteArray), 130)) := Lib.hid (by rw [parse_f u (by omega), HO.out]; rfl)
  have HB : Hid (P.path_Join.f ([] : List ByteArray) = some (b, 0)) := Lib.hid (by rw [hb]; exact join_good (by decide))
  have HSp : Hid (P.path_Split.f u = some (ba [], ba [], 130)) := Lib.hid (by rw [split_f u (by omega), HO.out]; rfl)
  obtain ⟨d, hd⟩ : ∃ d, d = ba [] := ⟨_, rfl⟩
  rw [← hd] at HSp
  have HPD : Hid (P.path_Parse.f d = some (([] : List ByteArray), 130)) := Lib.hid (by rw [hd, parse_f _ (by decide), bs_ba, p_nil]; rfl)
  clear hb hd
  have hB : Hid (Below w.heap.size w w) := Lib.hid (Below.refl _ _)
  go_enter Try.func5, Try.ntmps5
  go_wp2_with fail
  refine (P.moatlaw13_shown.calls 5 true _ HT.out).mono ?_
  rintro e w1 ⟨rfl, hb⟩
  replace hB := Lib.hid (below_step hB.out hb)
  clear hb
  go_wp2_with fail
  refine (HS.out _ (Kd.C_below HR.out hB.out)).mono ?_
  rintro e w2 ⟨rfl, hb⟩
  replace hB := Lib.hid (below_step hB.out hb.below)
  clear hb
  go_wp2_with fail
  refine (P.path_Join.calls A0 c0 t jx 0 _ (HC.out _ (Kd.C_below HR.out hB.out)) ht3 HA.out).mono ?_
  rintro e w3 ⟨rfl, hb⟩
  replace hB := Lib.hid (below_step hB.out hb)
  clear hb
  go_wp2_with fail
  refine (P.path_Parse.calls jx t 0 _ HP.out).mono ?_
  rintro e w4 ⟨vm, rfl, hOm, hb⟩
  replace hB := Lib.hid (below_step hB.out hb)
  clear hb
  obtain ⟨Am, cm, rfl, hcm, hCm⟩ := Kd.R_reads hOm
  replace hCm := Lib.hid hCm
  replace hcm := Lib.hid hcm
  clear hOm
  go_wp2_with fail
  refine (HS.out _ (Kd.C_below HR.out hB.out)).mono ?_
  rintro e w5 ⟨rfl, hb⟩
  replace hB := Lib.hid (below_step hB.out hb.below)
  replace hCm := Lib.hid (Kd.C_below hCm.out hb.below)
  clear hb
  go_wp2_with fail
  refine (P.moatref13_Same.calls 40 Am cm t A0 c0 t true _ hCm.out hcm.out (HC.out _ (Kd.C_below HR.out hB.out)) ht3 HSame.out).mono ?_
  rintro e w6 ⟨rfl, hb⟩
  replace hB := Lib.hid (below_step hB.out hb.below)
  clear hb
  clear hCm hcm
  go_wp2_with fail
  refine (P.moatlaw13_few.calls s u _ HU.out).mono ?_
  rintro e w7 ⟨rfl, hb⟩
  replace hB := Lib.hid (below_step hB.out hb)
  clear hb
  go_wp2_with fail
  refine (P.path_Parse.calls u ([] : List ByteArray) 130 _ HPU.out).mono ?_
  rintro e w8 ⟨vn, rfl, hOn, hb⟩
  replace hB := Lib.hid (below_step hB.out hb)
  obtain ⟨An, cn, rfl, hcn, hCn⟩ := Kd.R_reads hOn
  replace hOn := Lib.hid hOn
  replace hCn := Lib.hid hCn
  replace hcn := Lib.hid hcn
  clear hb
  go_wp2_with fail
  refine (P.path_Join.calls An cn ([] : List ByteArray) b 0 _ hCn.out hcn.out HB.out).mono ?_
  rintro e w9 ⟨rfl, hb⟩
  replace hB := Lib.hid (below_step hB.out hb)
  replace hCn := Lib.hid (Kd.C_below hCn.out hb)
  replace hOn := Lib.hid (Kd.R_below hOn.out hb)
  clear hb
  go_wp2_with fail
  refine (P.moatlaw13_few.calls s u _ HU.out).mono ?_
  rintro e w10 ⟨rfl, hb⟩
  replace hB := Lib.hid (below_step hB.out hb)
  replace hCn := Lib.hid (Kd.C_below hCn.out hb)
  replace hOn := Lib.hid (Kd.R_below hOn.out hb)
  clear hb
  go_wp2_with fail
  refine (P.path_Split.calls u d d 130 _ HSp.out).mono ?_
  rintro e w11 ⟨rfl, hb⟩
  replace hB := Lib.hid (below_step hB.out hb)
  replace hCn := Lib.hid (Kd.C_below hCn.out hb)
  replace hOn := Lib.hid (Kd.R_below hOn.out hb)
  clear hb
  go_wp2_with fail
  have hpd := P.path_Parse.calls d ([] : List ByteArray) 130
  refine (hpd _ HPD.out).mono ?_
  clear hpd
  rintro e w12 ⟨vk, rfl, hOk, hb⟩
  obtain ⟨Ak, ck, rfl, hck, hCk⟩ := Kd.R_reads hOk
  replace hB := Lib.hid (below_step hB.out hb)
  clear hb hOk hCk hck
  go_wp2_with fail
  go_ret
  exact ⟨by simp, hB.out⟩

set_option maxHeartbeats 8000000 in
set_option maxRecDepth 100000 in
theorem back_good_root (A0 : Option Addr) (c0 : Nat) (l0 : List ByteArray) (s : ByteArray) (w : World) (hr0 : Kd.C Kd.string w A0 l0.length l0) (hc0 : l0.length ≤ c0)
    (t : List ByteArray) (ht1 : (joinB t).length ≤ 3030) (ht2 : t.length ≤ 30) (ht3 : t.length ≤ c0) (htC : ∀ w, Kd.C Kd.string w A0 l0.length l0 → Kd.C Kd.string w A0 t.length t)
    (htS : ∀ w, Kd.C Kd.string w A0 l0.length l0 → Calls Try.prog 17 #[.slice A0 l0.length c0] w fun e w' => e = .returned (.slice A0 t.length c0) ∧ Drawn0 w w')
    (u : ByteArray) (hu : P.moatlaw13_few.f s = some u) (hus : u.size ≤ 1000) (hg : goodB t = true) (ho : parseO (bs u) = some []) :
    Calls Try.prog 5 #[.slice A0 l0.length c0, .string s] w fun e w' => e = .returned (.bool true) ∧ Below w.heap.size w w' := by
  have HR := Lib.hid hr0
  have HC := Lib.hid htC
  have HS := Lib.hid htS
  have HU := Lib.hid hu
  have HO := Lib.hid ho
  have HG := Lib.hid hg
  clear htC htS hr0 hu ho hg
  have HT : Hid (P.moatlaw13_shown.f 5 = some true) := Lib.hid (shown_f 5 (by omega))
  obtain ⟨jx, hjx⟩ : ∃ jx, jx = ba (pathOf t) := ⟨_, rfl⟩
  have HA : Hid (P.path_Join.f t = some (jx, 0)) := Lib.hid (by rw [hjx]; exact join_good HG.out)
  have HP : Hid (P.path_Parse.f jx = some (t, 0)) := Lib.hid (by rw [hjx, parse_f _ (ba_ok HG.out), bs_ba, parse_path HG.out]; rfl)
  have HSame : Hid (P.moatref13_Same.f 40 t t = some true) := Lib.hid (by rw [same_f t t (by omega) 40 (by omega)]; simp)
  clear hjx
  have HPU : Hid (P.path_Parse.f u = some (([] : List ByteArray), 0)) := Lib.hid (by rw [parse_f u (by omega), HO.out]; rfl)
  have HB : Hid (P.path_Join.f ([] : List ByteArray) = some (u, 0)) := Lib.hid (by rw [(path_len HO.out).1]; exact join_good (by decide))
  have HSp : Hid (P.path_Split.f u = some (ba [], ba [], 130)) := Lib.hid (by rw [split_f u (by omega), HO.out]; rfl)
  obtain ⟨d, hd⟩ : ∃ d, d = ba [] := ⟨_, rfl⟩
  rw [← hd] at HSp
  have HPD : Hid (P.path_Parse.f d = some (([] : List ByteArray), 130)) := Lib.hid (by rw [hd, parse_f _ (by decide), bs_ba, p_nil]; rfl)
  clear hd
  have hB : Hid (Below w.heap.size w w) := Lib.hid (Below.refl _ _)
  go_enter Try.func5, Try.ntmps5
  go_wp2_with fail
  refine (P.moatlaw13_shown.calls 5 true _ HT.out).mono ?_
  rintro e w1 ⟨rfl, hb⟩
  replace hB := Lib.hid (below_step hB.out hb)
  clear hb
  go_wp2_with fail
  refine (HS.out _ (Kd.C_below HR.out hB.out)).mono ?_
  rintro e w2 ⟨rfl, hb⟩
  replace hB := Lib.hid (below_step hB.out hb.below)
  clear hb
  go_wp2_with fail
  refine (P.path_Join.calls A0 c0 t jx 0 _ (HC.out _ (Kd.C_below HR.out hB.out)) ht3 HA.out).mono ?_
  rintro e w3 ⟨rfl, hb⟩
  replace hB := Lib.hid (below_step hB.out hb)
  clear hb
  go_wp2_with fail
  refine (P.path_Parse.calls jx t 0 _ HP.out).mono ?_
  rintro e w4 ⟨vm, rfl, hOm, hb⟩
  replace hB := Lib.hid (below_step hB.out hb)
  clear hb
  obtain ⟨Am, cm, rfl, hcm, hCm⟩ := Kd.R_reads hOm
  replace hCm := Lib.hid hCm
  replace hcm := Lib.hid hcm
  clear hOm
  go_wp2_with fail
  refine (HS.out _ (Kd.C_below HR.out hB.out)).mono ?_
  rintro e w5 ⟨rfl, hb⟩
  replace hB := Lib.hid (below_step hB.out hb.below)
  replace hCm := Lib.hid (Kd.C_below hCm.out hb.below)
  clear hb
  go_wp2_with fail
  refine (P.moatref13_Same.calls 40 Am cm t A0 c0 t true _ hCm.out hcm.out (HC.out _ (Kd.C_below HR.out hB.out)) ht3 HSame.out).mono ?_
  rintro e w6 ⟨rfl, hb⟩
  replace hB := Lib.hid (below_step hB.out hb.below)
  clear hb
  clear hCm hcm
  go_wp2_with fail
  refine (P.moatlaw13_few.calls s u _ HU.out).mono ?_
  rintro e w7 ⟨rfl, hb⟩
  replace hB := Lib.hid (below_step hB.out hb)
  clear hb
  go_wp2_with fail
  refine (P.path_Parse.calls u ([] : List ByteArray) 0 _ HPU.out).mono ?_
  rintro e w8 ⟨vn, rfl, hOn, hb⟩
  replace hB := Lib.hid (below_step hB.out hb)
  obtain ⟨An, cn, rfl, hcn, hCn⟩ := Kd.R_reads hOn
  replace hOn := Lib.hid hOn
  replace hCn := Lib.hid hCn
  replace hcn := Lib.hid hcn
  clear hb
  go_wp2_with fail
  refine (P.path_Join.calls An cn ([] : List ByteArray) u 0 _ hCn.out hcn.out HB.out).mono ?_
  rintro e w9 ⟨rfl, hb⟩
  replace hB := Lib.hid (below_step hB.out hb)
  replace hCn := Lib.hid (Kd.C_below hCn.out hb)
  replace hOn := Lib.hid (Kd.R_below hOn.out hb)
  clear hb
  go_wp2_with fail
  refine (P.moatlaw13_few.calls s u _ HU.out).mono ?_
  rintro e w10 ⟨rfl, hb⟩
  replace hB := Lib.hid (below_step hB.out hb)
  replace hCn := Lib.hid (Kd.C_below hCn.out hb)
  replace hOn := Lib.hid (Kd.R_below hOn.out hb)
  clear hb
  go_wp2_with fail
  refine (P.moatlaw13_few.calls s u _ HU.out).mono ?_
  rintro e w11 ⟨rfl, hb⟩
  replace hB := Lib.hid (below_step hB.out hb)
  replace hCn := Lib.hid (Kd.C_below hCn.out hb)
  replace hOn := Lib.hid (Kd.R_below hOn.out hb)
  clear hb
  go_wp2_with fail
  refine (P.path_Split.calls u d d 130 _ HSp.out).mono ?_
  rintro e w12 ⟨rfl, hb⟩
  replace hB := Lib.hid (below_step hB.out hb)
  replace hCn := Lib.hid (Kd.C_below hCn.out hb)
  replace hOn := Lib.hid (Kd.R_below hOn.out hb)
  clear hb
  go_wp2_with fail
  have hpd := P.path_Parse.calls d ([] : List ByteArray) 130
  refine (hpd _ HPD.out).mono ?_
  clear hpd
  rintro e w13 ⟨vk, rfl, hOk, hb⟩
  obtain ⟨Ak, ck, rfl, hck, hCk⟩ := Kd.R_reads hOk
  replace hB := Lib.hid (below_step hB.out hb)
  clear hb hOk hCk hck
  go_wp2_with fail
  go_ret
  exact ⟨by simp, hB.out⟩

set_option maxHeartbeats 8000000 in
set_option maxRecDepth 100000 in
theorem back_good_more (A0 : Option Addr) (c0 : Nat) (l0 : List ByteArray) (s : ByteArray) (w : World) (hr0 : Kd.C Kd.string w A0 l0.length l0) (hc0 : l0.length ≤ c0)
    (t : List ByteArray) (ht1 : (joinB t).length ≤ 3030) (ht2 : t.length ≤ 30) (ht3 : t.length ≤ c0) (htC : ∀ w, Kd.C Kd.string w A0 l0.length l0 → Kd.C Kd.string w A0 t.length t)
    (htS : ∀ w, Kd.C Kd.string w A0 l0.length l0 → Calls Try.prog 17 #[.slice A0 l0.length c0] w fun e w' => e = .returned (.slice A0 t.length c0) ∧ Drawn0 w w')
    (u : ByteArray) (hu : P.moatlaw13_few.f s = some u) (hus : u.size ≤ 1000) (hg : goodB t = true) (n : List ByteArray) (ho : parseO (bs u) = some n) (hn : n ≠ []) :
    Calls Try.prog 5 #[.slice A0 l0.length c0, .string s] w fun e w' => e = .returned (.bool true) ∧ Below w.heap.size w w' := by
  have HR := Lib.hid hr0
  have HC := Lib.hid htC
  have HS := Lib.hid htS
  have HU := Lib.hid hu
  have HO := Lib.hid ho
  have HG := Lib.hid hg
  clear htC htS hr0 hu ho hg
  have HT : Hid (P.moatlaw13_shown.f 5 = some true) := Lib.hid (shown_f 5 (by omega))
  obtain ⟨jx, hjx⟩ : ∃ jx, jx = ba (pathOf t) := ⟨_, rfl⟩
  have HA : Hid (P.path_Join.f t = some (jx, 0)) := Lib.hid (by rw [hjx]; exact join_good HG.out)
  have HP : Hid (P.path_Parse.f jx = some (t, 0)) := Lib.hid (by rw [hjx, parse_f _ (ba_ok HG.out), bs_ba, parse_path HG.out]; rfl)
  have HSame : Hid (P.moatref13_Same.f 40 t t = some true) := Lib.hid (by rw [same_f t t (by omega) 40 (by omega)]; simp)
  clear hjx
  have hng := (path_len HO.out).2
  have hnl : n.length ≤ 16 := (good_iff.1 hng).1
  have hnp : 0 < n.length := List.length_pos_iff.2 hn
  have hnd : decide ((n.length : Int) > 0) = true := decide_eq_true (by omega)
  have HPU : Hid (P.path_Parse.f u = some (n, 0)) := Lib.hid (by rw [parse_f u (by omega), HO.out]; rfl)
  have HB : Hid (P.path_Join.f n = some (u, 0)) := Lib.hid (by rw [(path_len HO.out).1]; exact join_good hng)
  obtain ⟨d, hd⟩ : ∃ d, d = ba (pathOf n.dropLast) := ⟨_, rfl⟩
  obtain ⟨x, hx⟩ : ∃ x, x = n.getLastD ByteArray.empty := ⟨_, rfl⟩
  obtain ⟨kk, hkk⟩ : ∃ kk, kk = n.dropLast := ⟨_, rfl⟩
  have HSp : Hid (P.path_Split.f u = some (d, x, 0)) := Lib.hid (by rw [split_f u (by omega), HO.out, hd, hx]; exact congrArg some (if_neg hn))
  have HPD : Hid (P.path_Parse.f d = some (kk, 0)) := Lib.hid (by rw [hd, hkk, parse_f _ (ba_ok (good_dropLast hng)), bs_ba, parse_path (good_dropLast hng)]; rfl)
  have hkl : kk.length ≤ 16 := by rw [hkk, List.length_dropLast]; omega
  have HKX : Hid (kk ++ [x] = n) := Lib.hid (by rw [hkk, hx]; exact snoc_last n hn)
  have HSame2 : Hid (P.moatref13_Same.f 40 n n = some true) := Lib.hid (by rw [same_f n n (by omega) 40 (by omega)]; simp)
  clear hd hx hkk hng hn
  have hB : Hid (Below w.heap.size w w) := Lib.hid (Below.refl _ _)
  go_enter Try.func5, Try.ntmps5
  go_wp2_with fail
  refine (P.moatlaw13_shown.calls 5 true _ HT.out).mono ?_
  rintro e w1 ⟨rfl, hb⟩
  replace hB := Lib.hid (below_step hB.out hb)
  clear hb
  go_wp2_with fail
  refine (HS.out _ (Kd.C_below HR.out hB.out)).mono ?_
  rintro e w2 ⟨rfl, hb⟩
  replace hB := Lib.hid (below_step hB.out hb.below)
  clear hb
  go_wp2_with fail
  refine (P.path_Join.calls A0 c0 t jx 0 _ (HC.out _ (Kd.C_below HR.out hB.out)) ht3 HA.out).mono ?_
  rintro e w3 ⟨rfl, hb⟩
  replace hB := Lib.hid (below_step hB.out hb)
  clear hb
  go_wp2_with fail
  refine (P.path_Parse.calls jx t 0 _ HP.out).mono ?_
  rintro e w4 ⟨vm, rfl, hOm, hb⟩
  replace hB := Lib.hid (below_step hB.out hb)
  clear hb
  obtain ⟨Am, cm, rfl, hcm, hCm⟩ := Kd.R_reads hOm
  replace hCm := Lib.hid hCm
  replace hcm := Lib.hid hcm
  clear hOm
  go_wp2_with fail
  refine (HS.out _ (Kd.C_below HR.out hB.out)).mono ?_
  rintro e w5 ⟨rfl, hb⟩
  replace hB := Lib.hid (below_step hB.out hb.below)
  replace hCm := Lib.hid (Kd.C_below hCm.out hb.below)
  clear hb
  go_wp2_with fail
  refine (P.moatref13_Same.calls 40 Am cm t A0 c0 t true _ hCm.out hcm.out (HC.out _ (Kd.C_below HR.out hB.out)) ht3 HSame.out).mono ?_
  rintro e w6 ⟨rfl, hb⟩
  replace hB := Lib.hid (below_step hB.out hb.below)
  clear hb
  clear hCm hcm
  go_wp2_with fail
  refine (P.moatlaw13_few.calls s u _ HU.out).mono ?_
  rintro e w7 ⟨rfl, hb⟩
  replace hB := Lib.hid (below_step hB.out hb)
  clear hb
  go_wp2_with fail
  refine (P.path_Parse.calls u n 0 _ HPU.out).mono ?_
  rintro e w8 ⟨vn, rfl, hOn, hb⟩
  replace hB := Lib.hid (below_step hB.out hb)
  obtain ⟨An, cn, rfl, hcn, hCn⟩ := Kd.R_reads hOn
  replace hOn := Lib.hid hOn
  replace hCn := Lib.hid hCn
  replace hcn := Lib.hid hcn
  clear hb
  go_wp2_with fail
  refine (P.path_Join.calls An cn n u 0 _ hCn.out hcn.out HB.out).mono ?_
  rintro e w9 ⟨rfl, hb⟩
  replace hB := Lib.hid (below_step hB.out hb)
  replace hCn := Lib.hid (Kd.C_below hCn.out hb)
  replace hOn := Lib.hid (Kd.R_below hOn.out hb)
  clear hb
  go_wp2_with fail
  refine (P.moatlaw13_few.calls s u _ HU.out).mono ?_
  rintro e w10 ⟨rfl, hb⟩
  replace hB := Lib.hid (below_step hB.out hb)
  replace hCn := Lib.hid (Kd.C_below hCn.out hb)
  replace hOn := Lib.hid (Kd.R_below hOn.out hb)
  clear hb
  go_wp2_with fail
  refine (P.moatlaw13_few.calls s u _ HU.out).mono ?_
  rintro e w11 ⟨rfl, hb⟩
  replace hB := Lib.hid (below_step hB.out hb)
  replace hCn := Lib.hid (Kd.C_below hCn.out hb)
  replace hOn := Lib.hid (Kd.R_below hOn.out hb)
  clear hb
  go_wp2_with fail
  refine (P.path_Split.calls u d x 0 _ HSp.out).mono ?_
  rintro e w12 ⟨rfl, hb⟩
  replace hB := Lib.hid (below_step hB.out hb)
  replace hCn := Lib.hid (Kd.C_below hCn.out hb)
  replace hOn := Lib.hid (Kd.R_below hOn.out hb)
  clear hb
  go_wp2_with fail
  have hpd := P.path_Parse.calls d kk 0
  refine (hpd _ HPD.out).mono ?_
  clear hpd
  rintro e w13 ⟨vk, rfl, hOk, hb⟩
  have hOn2 := Kd.R_elder' hOn.out (Kd.R_base hOk) hb
  replace hOk := Lib.hid (Kd.R_lower hOk (below_size hB.out))
  replace hB := Lib.hid (below_step hB.out hb)
  replace hOn2 := Lib.hid hOn2
  clear hb hOn hCn
  go_wp2_with ((with_reducible refine gate_builtin (b := .append) (xs := #[.tmp 114, .tmp 116]) rfl ?_); refine R_append_g Kd.string (w0 := w) w.heap.size (by first | rfl | kernel_rfl) (.tmp 114) (.tmp 116) 22 9 (.string ⟨#[]⟩) 16 rfl Try.underlying22 info_string rfl (by decide) (by omega) vk kk x [.string x] (fun _ => True) (fun _ => False) rfl rfl rfl (fun _ hk => hk.elim) (fun _ _ => trivial) hOk.out hB.out (below_size hB.out) (by omega) ?_; intro v2 w20 ho hb hg hat; replace hB := Lib.hid hb; replace ho := Lib.hid ho; have hOn3 := Lib.hid (Kd.R_grown hOn2.out hg (fun _ hk => hk.2)); clear hb hg hat hOk hOn2)
  replace ho := ho.out
  rw [HKX.out] at ho
  obtain ⟨A2, c2, rfl, hc2, hC2⟩ := Kd.R_reads ho
  obtain ⟨A3, c3, e3, hc3, hC3⟩ := Kd.R_reads hOn3.out
  obtain ⟨rfl, rfl⟩ : An = A3 ∧ cn = c3 := by injection e3 with e1 _ e2; exact ⟨e1, e2⟩
  clear ho hOn3 e3
  refine (P.moatref13_Same.calls 40 A2 c2 n An cn n true _ hC2 hc2 hC3 hc3 HSame2.out).mono ?_
  rintro e w21 ⟨rfl, hb⟩
  replace hB := Lib.hid (below_step hB.out hb.below)
  clear hb hC2 hc2 hC3 hc3
  go_wp2_with fail
  go_ret
  exact ⟨by simp, hB.out⟩

set_option maxHeartbeats 8000000 in
set_option maxRecDepth 100000 in
theorem back_bad_none (A0 : Option Addr) (c0 : Nat) (l0 : List ByteArray) (s : ByteArray) (w : World) (hr0 : Kd.C Kd.string w A0 l0.length l0) (hc0 : l0.length ≤ c0)
    (t : List ByteArray) (ht1 : (joinB t).length ≤ 3030) (ht2 : t.length ≤ 30) (ht3 : t.length ≤ c0) (htC : ∀ w, Kd.C Kd.string w A0 l0.length l0 → Kd.C Kd.string w A0 t.length t)
    (htS : ∀ w, Kd.C Kd.string w A0 l0.length l0 → Calls Try.prog 17 #[.slice A0 l0.length c0] w fun e w' => e = .returned (.slice A0 t.length c0) ∧ Drawn0 w w')
    (u : ByteArray) (hu : P.moatlaw13_few.f s = some u) (hus : u.size ≤ 1000) (hg : goodB t = false) (ho : parseO (bs u) = none) :
    Calls Try.prog 5 #[.slice A0 l0.length c0, .string s] w fun e w' => e = .returned (.bool true) ∧ Below w.heap.size w w' := by
  have HR := Lib.hid hr0
  have HC := Lib.hid htC
  have HS := Lib.hid htS
  have HU := Lib.hid hu
  have HO := Lib.hid ho
  have HG := Lib.hid hg
  clear htC htS hr0 hu ho hg
  have HT : Hid (P.moatlaw13_shown.f 5 = some true) := Lib.hid (shown_f 5 (by omega))
  obtain ⟨jx, hjx⟩ : ∃ jx, jx = ba [] := ⟨_, rfl⟩
  have HA : Hid (P.path_Join.f t = some (jx, 130)) := Lib.hid (by rw [hjx, join_f (by omega), if_neg (by rw [HG.out]; decide)])
  have HP : Hid (P.path_Parse.f jx = some (([] : List ByteArray), 130)) := Lib.hid (by rw [hjx, parse_f _ (by decide), bs_ba, p_nil]; rfl)
  have hjx1 : (jx.toList == ([] : List UInt8)) = true := by rw [hjx, toList_bs, bs_ba]; rfl
  have hjx2 : (jx.toList != ([] : List UInt8)) = false := by rw [hjx, toList_bs, bs_ba]; rfl
  clear hjx
  obtain ⟨b, hb⟩ : ∃ b, b = ba (pathOf []) := ⟨_, rfl⟩
  have HPU : Hid (P.path_Parse.f u = some (([] : List ByteArray), 130)) := Lib.hid (by rw [parse_f u (by omega), HO.out]; rfl)
  have HB : Hid (P.path_Join.f ([] : List ByteArray) = some (b, 0)) := Lib.hid (by rw [hb]; exact join_good (by decide))
  have HSp : Hid (P.path_Split.f u = some (ba [], ba [], 130)) := Lib.hid (by rw [split_f u (by omega), HO.out]; rfl)
  obtain ⟨d, hd⟩ : ∃ d, d = ba [] := ⟨_, rfl⟩
  rw [← hd] at HSp
  have HPD : Hid (P.path_Parse.f d = some (([] : List ByteArray), 130)) := Lib.hid (by rw [hd, parse_f _ (by decide), bs_ba, p_nil]; rfl)
  clear hb hd
  have hB : Hid (Below w.heap.size w w) := Lib.hid (Below.refl _ _)
  go_enter Try.func5, Try.ntmps5
  go_wp2_with fail
  refine (P.moatlaw13_shown.calls 5 true _ HT.out).mono ?_
  rintro e w1 ⟨rfl, hb⟩
  replace hB := Lib.hid (below_step hB.out hb)
  clear hb
  go_wp2_with fail
  refine (HS.out _ (Kd.C_below HR.out hB.out)).mono ?_
  rintro e w2 ⟨rfl, hb⟩
  replace hB := Lib.hid (below_step hB.out hb.below)
  clear hb
  go_wp2_with fail
  refine (P.path_Join.calls A0 c0 t jx 130 _ (HC.out _ (Kd.C_below HR.out hB.out)) ht3 HA.out).mono ?_
  rintro e w3 ⟨rfl, hb⟩
  replace hB := Lib.hid (below_step hB.out hb)
  clear hb
  go_wp2_with fail
  refine (P.path_Parse.calls jx ([] : List ByteArray) 130 _ HP.out).mono ?_
  rintro e w4 ⟨vm, rfl, hOm, hb⟩
  replace hB := Lib.hid (below_step hB.out hb)
  clear hb
  obtain ⟨Am, cm, rfl, hcm, hCm⟩ := Kd.R_reads hOm
  replace hCm := Lib.hid hCm
  replace hcm := Lib.hid hcm
  clear hOm
  clear hCm hcm
  go_wp2_with fail
  refine (P.moatlaw13_few.calls s u _ HU.out).mono ?_
  rintro e w5 ⟨rfl, hb⟩
  replace hB := Lib.hid (below_step hB.out hb)
  clear hb
  go_wp2_with fail
  refine (P.path_Parse.calls u ([] : List ByteArray) 130 _ HPU.out).mono ?_
  rintro e w6 ⟨vn, rfl, hOn, hb⟩
  replace hB := Lib.hid (below_step hB.out hb)
  obtain ⟨An, cn, rfl, hcn, hCn⟩ := Kd.R_reads hOn
  replace hOn := Lib.hid hOn
  replace hCn := Lib.hid hCn
  replace hcn := Lib.hid hcn
  clear hb
  go_wp2_with fail
  refine (P.path_Join.calls An cn ([] : List ByteArray) b 0 _ hCn.out hcn.out HB.out).mono ?_
  rintro e w7 ⟨rfl, hb⟩
  replace hB := Lib.hid (below_step hB.out hb)
  replace hCn := Lib.hid (Kd.C_below hCn.out hb)
  replace hOn := Lib.hid (Kd.R_below hOn.out hb)
  clear hb
  go_wp2_with fail
  refine (P.moatlaw13_few.calls s u _ HU.out).mono ?_
  rintro e w8 ⟨rfl, hb⟩
  replace hB := Lib.hid (below_step hB.out hb)
  replace hCn := Lib.hid (Kd.C_below hCn.out hb)
  replace hOn := Lib.hid (Kd.R_below hOn.out hb)
  clear hb
  go_wp2_with fail
  refine (P.path_Split.calls u d d 130 _ HSp.out).mono ?_
  rintro e w9 ⟨rfl, hb⟩
  replace hB := Lib.hid (below_step hB.out hb)
  replace hCn := Lib.hid (Kd.C_below hCn.out hb)
  replace hOn := Lib.hid (Kd.R_below hOn.out hb)
  clear hb
  go_wp2_with fail
  have hpd := P.path_Parse.calls d ([] : List ByteArray) 130
  refine (hpd _ HPD.out).mono ?_
  clear hpd
  rintro e w10 ⟨vk, rfl, hOk, hb⟩
  obtain ⟨Ak, ck, rfl, hck, hCk⟩ := Kd.R_reads hOk
  replace hB := Lib.hid (below_step hB.out hb)
  clear hb hOk hCk hck
  go_wp2_with fail
  go_ret
  exact ⟨by simp, hB.out⟩

set_option maxHeartbeats 8000000 in
set_option maxRecDepth 100000 in
theorem back_bad_root (A0 : Option Addr) (c0 : Nat) (l0 : List ByteArray) (s : ByteArray) (w : World) (hr0 : Kd.C Kd.string w A0 l0.length l0) (hc0 : l0.length ≤ c0)
    (t : List ByteArray) (ht1 : (joinB t).length ≤ 3030) (ht2 : t.length ≤ 30) (ht3 : t.length ≤ c0) (htC : ∀ w, Kd.C Kd.string w A0 l0.length l0 → Kd.C Kd.string w A0 t.length t)
    (htS : ∀ w, Kd.C Kd.string w A0 l0.length l0 → Calls Try.prog 17 #[.slice A0 l0.length c0] w fun e w' => e = .returned (.slice A0 t.length c0) ∧ Drawn0 w w')
    (u : ByteArray) (hu : P.moatlaw13_few.f s = some u) (hus : u.size ≤ 1000) (hg : goodB t = false) (ho : parseO (bs u) = some []) :
    Calls Try.prog 5 #[.slice A0 l0.length c0, .string s] w fun e w' => e = .returned (.bool true) ∧ Below w.heap.size w w' := by
  have HR := Lib.hid hr0
  have HC := Lib.hid htC
  have HS := Lib.hid htS
  have HU := Lib.hid hu
  have HO := Lib.hid ho
  have HG := Lib.hid hg
  clear htC htS hr0 hu ho hg
  have HT : Hid (P.moatlaw13_shown.f 5 = some true) := Lib.hid (shown_f 5 (by omega))
  obtain ⟨jx, hjx⟩ : ∃ jx, jx = ba [] := ⟨_, rfl⟩
  have HA : Hid (P.path_Join.f t = some (jx, 130)) := Lib.hid (by rw [hjx, join_f (by omega), if_neg (by rw [HG.out]; decide)])
  have HP : Hid (P.path_Parse.f jx = some (([] : List ByteArray), 130)) := Lib.hid (by rw [hjx, parse_f _ (by decide), bs_ba, p_nil]; rfl)
  have hjx1 : (jx.toList == ([] : List UInt8)) = true := by rw [hjx, toList_bs, bs_ba]; rfl
  have hjx2 : (jx.toList != ([] : List UInt8)) = false := by rw [hjx, toList_bs, bs_ba]; rfl
  clear hjx
  have HPU : Hid (P.path_Parse.f u = some (([] : List ByteArray), 0)) := Lib.hid (by rw [parse_f u (by omega), HO.out]; rfl)
  have HB : Hid (P.path_Join.f ([] : List ByteArray) = some (u, 0)) := Lib.hid (by rw [(path_len HO.out).1]; exact join_good (by decide))
  have HSp : Hid (P.path_Split.f u = some (ba [], ba [], 130)) := Lib.hid (by rw [split_f u (by omega), HO.out]; rfl)
  obtain ⟨d, hd⟩ : ∃ d, d = ba [] := ⟨_, rfl⟩
  rw [← hd] at HSp
  have HPD : Hid (P.path_Parse.f d = some (([] : List ByteArray), 130)) := Lib.hid (by rw [hd, parse_f _ (by decide), bs_ba, p_nil]; rfl)
  clear hd
  have hB : Hid (Below w.heap.size w w) := Lib.hid (Below.refl _ _)
  go_enter Try.func5, Try.ntmps5
  go_wp2_with fail
  refine (P.moatlaw13_shown.calls 5 true _ HT.out).mono ?_
  rintro e w1 ⟨rfl, hb⟩
  replace hB := Lib.hid (below_step hB.out hb)
  clear hb
  go_wp2_with fail
  refine (HS.out _ (Kd.C_below HR.out hB.out)).mono ?_
  rintro e w2 ⟨rfl, hb⟩
  replace hB := Lib.hid (below_step hB.out hb.below)
  clear hb
  go_wp2_with fail
  refine (P.path_Join.calls A0 c0 t jx 130 _ (HC.out _ (Kd.C_below HR.out hB.out)) ht3 HA.out).mono ?_
  rintro e w3 ⟨rfl, hb⟩
  replace hB := Lib.hid (below_step hB.out hb)
  clear hb
  go_wp2_with fail
  refine (P.path_Parse.calls jx ([] : List ByteArray) 130 _ HP.out).mono ?_
  rintro e w4 ⟨vm, rfl, hOm, hb⟩
  replace hB := Lib.hid (below_step hB.out hb)
  clear hb
  obtain ⟨Am, cm, rfl, hcm, hCm⟩ := Kd.R_reads hOm
  replace hCm := Lib.hid hCm
  replace hcm := Lib.hid hcm
  clear hOm
  clear hCm hcm
  go_wp2_with fail
  refine (P.moatlaw13_few.calls s u _ HU.out).mono ?_
  rintro e w5 ⟨rfl, hb⟩
  replace hB := Lib.hid (below_step hB.out hb)
  clear hb
  go_wp2_with fail
  refine (P.path_Parse.calls u ([] : List ByteArray) 0 _ HPU.out).mono ?_
  rintro e w6 ⟨vn, rfl, hOn, hb⟩
  replace hB := Lib.hid (below_step hB.out hb)
  obtain ⟨An, cn, rfl, hcn, hCn⟩ := Kd.R_reads hOn
  replace hOn := Lib.hid hOn
  replace hCn := Lib.hid hCn
  replace hcn := Lib.hid hcn
  clear hb
  go_wp2_with fail
  refine (P.path_Join.calls An cn ([] : List ByteArray) u 0 _ hCn.out hcn.out HB.out).mono ?_
  rintro e w7 ⟨rfl, hb⟩
  replace hB := Lib.hid (below_step hB.out hb)
  replace hCn := Lib.hid (Kd.C_below hCn.out hb)
  replace hOn := Lib.hid (Kd.R_below hOn.out hb)
  clear hb
  go_wp2_with fail
  refine (P.moatlaw13_few.calls s u _ HU.out).mono ?_
  rintro e w8 ⟨rfl, hb⟩
  replace hB := Lib.hid (below_step hB.out hb)
  replace hCn := Lib.hid (Kd.C_below hCn.out hb)
  replace hOn := Lib.hid (Kd.R_below hOn.out hb)
  clear hb
  go_wp2_with fail
  refine (P.moatlaw13_few.calls s u _ HU.out).mono ?_
  rintro e w9 ⟨rfl, hb⟩
  replace hB := Lib.hid (below_step hB.out hb)
  replace hCn := Lib.hid (Kd.C_below hCn.out hb)
  replace hOn := Lib.hid (Kd.R_below hOn.out hb)
  clear hb
  go_wp2_with fail
  refine (P.path_Split.calls u d d 130 _ HSp.out).mono ?_
  rintro e w10 ⟨rfl, hb⟩
  replace hB := Lib.hid (below_step hB.out hb)
  replace hCn := Lib.hid (Kd.C_below hCn.out hb)
  replace hOn := Lib.hid (Kd.R_below hOn.out hb)
  clear hb
  go_wp2_with fail
  have hpd := P.path_Parse.calls d ([] : List ByteArray) 130
  refine (hpd _ HPD.out).mono ?_
  clear hpd
  rintro e w11 ⟨vk, rfl, hOk, hb⟩
  obtain ⟨Ak, ck, rfl, hck, hCk⟩ := Kd.R_reads hOk
  replace hB := Lib.hid (below_step hB.out hb)
  clear hb hOk hCk hck
  go_wp2_with fail
  go_ret
  exact ⟨by simp, hB.out⟩

set_option maxHeartbeats 8000000 in
set_option maxRecDepth 100000 in
theorem back_bad_more (A0 : Option Addr) (c0 : Nat) (l0 : List ByteArray) (s : ByteArray) (w : World) (hr0 : Kd.C Kd.string w A0 l0.length l0) (hc0 : l0.length ≤ c0)
    (t : List ByteArray) (ht1 : (joinB t).length ≤ 3030) (ht2 : t.length ≤ 30) (ht3 : t.length ≤ c0) (htC : ∀ w, Kd.C Kd.string w A0 l0.length l0 → Kd.C Kd.string w A0 t.length t)
    (htS : ∀ w, Kd.C Kd.string w A0 l0.length l0 → Calls Try.prog 17 #[.slice A0 l0.length c0] w fun e w' => e = .returned (.slice A0 t.length c0) ∧ Drawn0 w w')
    (u : ByteArray) (hu : P.moatlaw13_few.f s = some u) (hus : u.size ≤ 1000) (hg : goodB t = false) (n : List ByteArray) (ho : parseO (bs u) = some n) (hn : n ≠ []) :
    Calls Try.prog 5 #[.slice A0 l0.length c0, .string s] w fun e w' => e = .returned (.bool true) ∧ Below w.heap.size w w' := by
  have HR := Lib.hid hr0
  have HC := Lib.hid htC
  have HS := Lib.hid htS
  have HU := Lib.hid hu
  have HO := Lib.hid ho
  have HG := Lib.hid hg
  clear htC htS hr0 hu ho hg
  have HT : Hid (P.moatlaw13_shown.f 5 = some true) := Lib.hid (shown_f 5 (by omega))
  obtain ⟨jx, hjx⟩ : ∃ jx, jx = ba [] := ⟨_, rfl⟩
  have HA : Hid (P.path_Join.f t = some (jx, 130)) := Lib.hid (by rw [hjx, join_f (by omega), if_neg (by rw [HG.out]; decide)])
  have HP : Hid (P.path_Parse.f jx = some (([] : List ByteArray), 130)) := Lib.hid (by rw [hjx, parse_f _ (by decide), bs_ba, p_nil]; rfl)
  have hjx1 : (jx.toList == ([] : List UInt8)) = true := by rw [hjx, toList_bs, bs_ba]; rfl
  have hjx2 : (jx.toList != ([] : List UInt8)) = false := by rw [hjx, toList_bs, bs_ba]; rfl
  clear hjx
  have hng := (path_len HO.out).2
  have hnl : n.length ≤ 16 := (good_iff.1 hng).1
  have hnp : 0 < n.length := List.length_pos_iff.2 hn
  have hnd : decide ((n.length : Int) > 0) = true := decide_eq_true (by omega)
  have HPU : Hid (P.path_Parse.f u = some (n, 0)) := Lib.hid (by rw [parse_f u (by omega), HO.out]; rfl)
  have HB : Hid (P.path_Join.f n = some (u, 0)) := Lib.hid (by rw [(path_len HO.out).1]; exact join_good hng)
  obtain ⟨d, hd⟩ : ∃ d, d = ba (pathOf n.dropLast) := ⟨_, rfl⟩
  obtain ⟨x, hx⟩ : ∃ x, x = n.getLastD ByteArray.empty := ⟨_, rfl⟩
  obtain ⟨kk, hkk⟩ : ∃ kk, kk = n.dropLast := ⟨_, rfl⟩
  have HSp : Hid (P.path_Split.f u = some (d, x, 0)) := Lib.hid (by rw [split_f u (by omega), HO.out, hd, hx]; exact congrArg some (if_neg hn))
  have HPD : Hid (P.path_Parse.f d = some (kk, 0)) := Lib.hid (by rw [hd, hkk, parse_f _ (ba_ok (good_dropLast hng)), bs_ba, parse_path (good_dropLast hng)]; rfl)
  have hkl : kk.length ≤ 16 := by rw [hkk, List.length_dropLast]; omega
  have HKX : Hid (kk ++ [x] = n) := Lib.hid (by rw [hkk, hx]; exact snoc_last n hn)
  have HSame2 : Hid (P.moatref13_Same.f 40 n n = some true) := Lib.hid (by rw [same_f n n (by omega) 40 (by omega)]; simp)
  clear hd hx hkk hng hn
  have hB : Hid (Below w.heap.size w w) := Lib.hid (Below.refl _ _)
  go_enter Try.func5, Try.ntmps5
  go_wp2_with fail
  refine (P.moatlaw13_shown.calls 5 true _ HT.out).mono ?_
  rintro e w1 ⟨rfl, hb⟩
  replace hB := Lib.hid (below_step hB.out hb)
  clear hb
  go_wp2_with fail
  refine (HS.out _ (Kd.C_below HR.out hB.out)).mono ?_
  rintro e w2 ⟨rfl, hb⟩
  replace hB := Lib.hid (below_step hB.out hb.below)
  clear hb
  go_wp2_with fail
  refine (P.path_Join.calls A0 c0 t jx 130 _ (HC.out _ (Kd.C_below HR.out hB.out)) ht3 HA.out).mono ?_
  rintro e w3 ⟨rfl, hb⟩
  replace hB := Lib.hid (below_step hB.out hb)
  clear hb
  go_wp2_with fail
  refine (P.path_Parse.calls jx ([] : List ByteArray) 130 _ HP.out).mono ?_
  rintro e w4 ⟨vm, rfl, hOm, hb⟩
  replace hB := Lib.hid (below_step hB.out hb)
  clear hb
  obtain ⟨Am, cm, rfl, hcm, hCm⟩ := Kd.R_reads hOm
  replace hCm := Lib.hid hCm
  replace hcm := Lib.hid hcm
  clear hOm
  clear hCm hcm
  go_wp2_with fail
  refine (P.moatlaw13_few.calls s u _ HU.out).mono ?_
  rintro e w5 ⟨rfl, hb⟩
  replace hB := Lib.hid (below_step hB.out hb)
  clear hb
  go_wp2_with fail
  refine (P.path_Parse.calls u n 0 _ HPU.out).mono ?_
  rintro e w6 ⟨vn, rfl, hOn, hb⟩
  replace hB := Lib.hid (below_step hB.out hb)
  obtain ⟨An, cn, rfl, hcn, hCn⟩ := Kd.R_reads hOn
  replace hOn := Lib.hid hOn
  replace hCn := Lib.hid hCn
  replace hcn := Lib.hid hcn
  clear hb
  go_wp2_with fail
  refine (P.path_Join.calls An cn n u 0 _ hCn.out hcn.out HB.out).mono ?_
  rintro e w7 ⟨rfl, hb⟩
  replace hB := Lib.hid (below_step hB.out hb)
  replace hCn := Lib.hid (Kd.C_below hCn.out hb)
  replace hOn := Lib.hid (Kd.R_below hOn.out hb)
  clear hb
  go_wp2_with fail
  refine (P.moatlaw13_few.calls s u _ HU.out).mono ?_
  rintro e w8 ⟨rfl, hb⟩
  replace hB := Lib.hid (below_step hB.out hb)
  replace hCn := Lib.hid (Kd.C_below hCn.out hb)
  replace hOn := Lib.hid (Kd.R_below hOn.out hb)
  clear hb
  go_wp2_with fail
  refine (P.moatlaw13_few.calls s u _ HU.out).mono ?_
  rintro e w9 ⟨rfl, hb⟩
  replace hB := Lib.hid (below_step hB.out hb)
  replace hCn := Lib.hid (Kd.C_below hCn.out hb)
  replace hOn := Lib.hid (Kd.R_below hOn.out hb)
  clear hb
  go_wp2_with fail
  refine (P.path_Split.calls u d x 0 _ HSp.out).mono ?_
  rintro e w10 ⟨rfl, hb⟩
  replace hB := Lib.hid (below_step hB.out hb)
  replace hCn := Lib.hid (Kd.C_below hCn.out hb)
  replace hOn := Lib.hid (Kd.R_below hOn.out hb)
  clear hb
  go_wp2_with fail
  have hpd := P.path_Parse.calls d kk 0
  refine (hpd _ HPD.out).mono ?_
  clear hpd
  rintro e w11 ⟨vk, rfl, hOk, hb⟩
  have hOn2 := Kd.R_elder' hOn.out (Kd.R_base hOk) hb
  replace hOk := Lib.hid (Kd.R_lower hOk (below_size hB.out))
  replace hB := Lib.hid (below_step hB.out hb)
  replace hOn2 := Lib.hid hOn2
  clear hb hOn hCn
  go_wp2_with ((with_reducible refine gate_builtin (b := .append) (xs := #[.tmp 114, .tmp 116]) rfl ?_); refine R_append_g Kd.string (w0 := w) w.heap.size (by first | rfl | kernel_rfl) (.tmp 114) (.tmp 116) 22 9 (.string ⟨#[]⟩) 16 rfl Try.underlying22 info_string rfl (by decide) (by omega) vk kk x [.string x] (fun _ => True) (fun _ => False) rfl rfl rfl (fun _ hk => hk.elim) (fun _ _ => trivial) hOk.out hB.out (below_size hB.out) (by omega) ?_; intro v2 w20 ho hb hg hat; replace hB := Lib.hid hb; replace ho := Lib.hid ho; have hOn3 := Lib.hid (Kd.R_grown hOn2.out hg (fun _ hk => hk.2)); clear hb hg hat hOk hOn2)
  replace ho := ho.out
  rw [HKX.out] at ho
  obtain ⟨A2, c2, rfl, hc2, hC2⟩ := Kd.R_reads ho
  obtain ⟨A3, c3, e3, hc3, hC3⟩ := Kd.R_reads hOn3.out
  obtain ⟨rfl, rfl⟩ : An = A3 ∧ cn = c3 := by injection e3 with e1 _ e2; exact ⟨e1, e2⟩
  clear ho hOn3 e3
  refine (P.moatref13_Same.calls 40 A2 c2 n An cn n true _ hC2 hc2 hC3 hc3 HSame2.out).mono ?_
  rintro e w21 ⟨rfl, hb⟩
  replace hB := Lib.hid (below_step hB.out hb.below)
  clear hb hC2 hc2 hC3 hc3
  go_wp2_with fail
  go_ret
  exact ⟨by simp, hB.out⟩

theorem back_any (A0 : Option Addr) (c0 : Nat) (l0 : List ByteArray) (s : ByteArray) (w : World) (hr0 : Kd.C Kd.string w A0 l0.length l0) (hc0 : l0.length ≤ c0) :
    Calls Try.prog 5 #[.slice A0 l0.length c0, .string s] w fun e w' => e = .returned (.bool true) ∧ Below w.heap.size w w' := by
  obtain ⟨t, ht1, ht2, ht3, htC, htS⟩ := some_t A0 c0 l0 hc0
  obtain ⟨u, hu, hus⟩ := few_ok s
  cases hg : goodB t with
  | true =>
    cases ho : parseO (bs u) with
    | none => exact back_good_none A0 c0 l0 s w hr0 hc0 t ht1 ht2 ht3 htC htS u hu hus hg ho
    | some n =>
      by_cases hn : n = []
      · subst hn; exact back_good_root A0 c0 l0 s w hr0 hc0 t ht1 ht2 ht3 htC htS u hu hus hg ho
      · exact back_good_more A0 c0 l0 s w hr0 hc0 t ht1 ht2 ht3 htC htS u hu hus hg n ho hn
  | false =>
    cases ho : parseO (bs u) with
    | none => exact back_bad_none A0 c0 l0 s w hr0 hc0 t ht1 ht2 ht3 htC htS u hu hus hg ho
    | some n =>
      by_cases hn : n = []
      · subst hn; exact back_bad_root A0 c0 l0 s w hr0 hc0 t ht1 ht2 ht3 htC htS u hu hus hg ho
      · exact back_bad_more A0 c0 l0 s w hr0 hc0 t ht1 ht2 ht3 htC htS u hu hus hg n ho hn
end Go.Proofs.Ytljddpnnfdaplaa.Pl
