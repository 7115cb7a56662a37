/- EntryOthers returns true for every row of bytes and every entry, and leaves the row as it was. No condition. -/
import Derived.Test.YtinfjmdcmfpdiaaRows
import Derived.Test.YtinfjmdcmfpdiaaM5
import Derived.WalkKit
import Derived.ProofKit
import Derived.OpenShut
import Derived.ShutString
import Derived.Carry
import Derived.ChangeOld
import Derived.Below
import Derived.SizedLaws
import Derived.Lib.SmallJoins
namespace Go.Proofs.Ytinfjmdcmfpdiaa.entryOthers
open Go.ChangeShapes Go.WideShapes Go.ChangeAt Go.RowKit Go.Joins Go.Proofs.YtinfjmdcmfpdiaaW.PrintWords
open Go.ChangeMaps (open_string shut_string)
set_option linter.unusedVariables false
set_option linter.unusedSimpArgs false
theorem own : ownKnob Try.prog.godebug = none := by kernel_rfl
theorem laidOut : laidOutB Try.prog = true := by kernel_rfl
theorem cells_entry : Try.prog.cellsOf 23 = 2 := by kernel_rfl
/-- What a row of bytes that came in is. -/
theorem row_bytes {W : World} {a : Option Addr} {len cap : Nat} {zs : List Int} (h : (a = none ∧ len = 0 ∧ cap = 0 ∧ zs = []) ∨ ∃ x, a = some x ∧ len ≤ cap ∧ cap ≤ maxLen ∧ zs.length = cap ∧ (∀ i, i < zs.length → W.cell? (x.add i) = some (.int .u8 (zs.getD i 0))) ∧ ∀ n ∈ zs, (Lit.int .u8 n).wf = true) :
    ∃ l : List Int, l.length = len ∧ len ≤ cap ∧ Kd.C (Kd.int .u8) W a l.length l ∧ Md.Bytes l := by
  have hb : Md.Bytes (zs.take len) := by
    intro x hx
    have hw : (Lit.int .u8 x).wf = true := by
      rcases h with ⟨rfl, rfl, rfl, rfl⟩ | ⟨ad, rfl, _, _, _, _, hw⟩
      · simp at hx
      · exact hw x (List.mem_of_mem_take hx)
    simp [Lit.wf, IntKind.min, IntKind.max, IntKind.bits, IntKind.signed] at hw
    omega
  rcases h with ⟨rfl, rfl, rfl, rfl⟩ | ⟨ad, rfl, hl, hm, hz, hc, hw⟩
  · exact ⟨[], rfl, Nat.le_refl _, Kd.C_nil _ _, Md.Bytes.nil⟩
  · have hlen : (zs.take len).length = len := by rw [List.length_take]; omega
    refine ⟨zs.take len, hlen, hl, ?_, hb⟩
    refine Kd.C_of_reads (enc := Value.int .u8) (d := (0 : Int)) (h1 := fun _ => rfl) ⟨rfl, by rw [hlen]; unfold maxLen at hm; omega, fun _ => ⟨ad, rfl, fun j hj => ?_⟩⟩
    rw [hlen] at hj
    rw [hc j (by omega), List.getD_eq_getElem?_getD, List.getD_eq_getElem?_getD, List.getElem?_take, if_pos hj]
set_option maxRecDepth 100000 in
theorem lifted (os : Os) (started : os.Started) (H : Type) (enc : TypeId × Value → H) :
    ReturnsInHanded {} Try.checked os 7 .any (Rows.entryOthersSpec.pre6 enc Try.prog Try.f7 Rows.entryOthersRow.domain false) (Rows.entryOthersSpec.post enc Try.prog Try.f7 false true false false) := by
  refine returnsInHanded_of_change_sized (C := Try.checked) own started (by kernel_rfl) Try.func7
    (ChangeSpec.witness6 (enc := enc) (C := Try.checked) false ⟨#[], #[.slice none 0 0, .agg #[.string ByteArray.empty, .int .i64 0]], []⟩ 8 (by kernel_rfl) (by kernel_rfl) (by kernel_rfl) (by kernel_rfl)) ?_
  intro W base args ds gs before hval0 hW hcnd hsz0 _
  have hsz : (DataW.weightsEach Try.prog (Try.f7.params.toList ++ Rows.entryOthersSpec.plain.varTypes Try.prog) (ds ++ gs)).all (· ≤ reachBytes) = true := hsz0
  have hval : ∀ (j : Nat) t v, Try.f7.params[j]? = some t → args[j]? = some v → Value.okWide Try.prog W .any base t v := hval0
  have hW' := hW
  obtain ⟨p, q, hA0, hV, rfl, hfz, hnd⟩ := hW
  have hA : DataW.TrodAll enc Try.prog W 0 (fun _ => true) true Try.f7.params.toList args.toList ds p := hA0
  rw [Try.params7] at hA hval hsz
  obtain ⟨v0, vs0, d0, ds0, p0, q0, hargs, rfl, rfl, h0, r0⟩ := trodAll_cons hA
  obtain ⟨v1, vs1, d1, ds1, p1, q1, rfl, rfl, rfl, h1, r1⟩ := trodAll_cons r0
  obtain ⟨rfl, rfl, rfl⟩ := trodAll_nil r1
  obtain rfl : args = #[v0, v1] := by cases args; simp_all
  obtain ⟨rfl, rfl⟩ := trodVars_none hV
  obtain ⟨a0, len0, cap0, rfl⟩ := okWide_slice Try.underlying24 (hval 0 24 v0 rfl rfl)
  have k0 := h0
  have lt0 : ∀ x ∈ p0, x.block < W.heap.size := by obtain ⟨m, hm⟩ := k0; exact DataW.trod_lt m _ _ _ hm
  obtain ⟨l0, hl0, hcap0, hC0, hB0⟩ : ∃ l : List Int, l.length = len0 ∧ len0 ≤ cap0 ∧ Kd.C (Kd.int .u8) W a0 l.length l ∧ Md.Bytes l := by
    obtain ⟨fuel, hf⟩ := h0
    rcases open_ints Try.underlying24 Try.underlying5 (by kernel_rfl) hf with ⟨hcs, _⟩ | ⟨x, l, c, zs, hcs, _, hl, hm, hz, _, hcell, hwz⟩
    · simp [Value.cells] at hcs
      obtain ⟨rfl, rfl, rfl⟩ := hcs
      exact row_bytes (zs := []) (.inl ⟨rfl, rfl, rfl, rfl⟩)
    · simp [Value.cells] at hcs
      obtain ⟨rfl, rfl, rfl⟩ := hcs
      exact row_bytes (zs := zs) (.inr ⟨_, rfl, hl, hm, by simpa using hz, hcell, hwz⟩)
  subst hl0
  obtain ⟨c10, c11, y10, y11, mm1, rfl, rfl, rfl, hy10, hy11⟩ := open_agg2 Try.underlying23 (by kernel_rfl) cells_entry (hval 1 23 v1 rfl rfl) h1
  obtain ⟨a10, e10, rfl, wa10⟩ := DataW.trod_string Try.underlying9 hy10
  obtain ⟨a11, e11, rfl, wa11⟩ := DataW.trod_int Try.underlying3 hy11
  simp at e10 e11
  subst e10 e11
  have st1 : ∀ (W' : World) (sp : Nat → Bool), DataW.Trod enc Try.prog W' 0 sp true 23 (.agg #[.string a10, .int .i64 a11]) (.agg [.lit (.string a10.data.toList), .lit (.int .i64 a11)]) [] := fun W' sp =>
    shut_agg2 (y0 := (.lit (.string a10.data.toList), [])) (y1 := (.lit (.int .i64 a11), [])) Try.underlying23 (by kernel_rfl) cells_entry ⟨1, by simp [DataW.trod, Try.underlying9, wa10]⟩ ⟨1, by simp [DataW.trod, Try.underlying3, wa11]⟩
  clear hA0 hval0 hsz0 hsz
  refine (Lw.others_any a0 cap0 l0 a10 a11 W hB0 hC0 hcap0 wa10).mono fun e W' ⟨he, bel⟩ => ?_
  subst he
  exact ⟨_, rfl, _, _, _, [], _, [], hW', trodAll_mk1 (shut_bool Try.underlying4 _), (trodAll_cons_mk (Below.trod laidOut (by kernel_rfl) (of_decide_eq_true (by kernel_rfl)) k0 bel lt0) (trodAll_cons_mk (st1 _ _) trodAll_mk0)), rfl, bel.frame _, fun h => by cases h⟩
theorem over : Rows.entryOthersRow.holds Try.pinned (OpenSpec.ofChange Rows.entryOthersSpec) :=
  OpenClaim.holds_of_wide 7 Try.f7 rfl rfl rfl rfl rfl rfl rfl ⟨rfl, rfl, rfl, rfl, rfl⟩ rfl rfl rfl rfl rfl (by kernel_rfl) Try.func7 (by kernel_rfl)
    (of_decide_eq_true (by kernel_rfl)) (by unfold Func.isWrapper; first | (rw [if_pos (by decide +kernel)]; kernel_rfl) | (rw [if_neg (by decide +kernel)]; exact ⟨rfl, rfl⟩))
    (fun os started H enc _ => lifted os started H enc)
theorem proved : Rows.EntryOthersSaid := over
end Go.Proofs.Ytinfjmdcmfpdiaa.entryOthers
namespace Go.Proofs.Ytinfjmdcmfpdiaa
theorem entryOthers_holds : Rows.EntryOthersSaid := entryOthers.proved
#print axioms entryOthers_holds
end Go.Proofs.Ytinfjmdcmfpdiaa
