/- Walks and plain laws on which the claim stands, several texts joined. -/
import Derived.Test.YtinfjmdcmfpdiaaM13
import Derived.Deep.Slices
import Derived.ChangeArms
import Derived.OpenShut
import Derived.ChangeSame

/- EntrySet: its walk. -/
namespace Go.Proofs.Ytinfjmdcmfpdiaa.St
open Go.RowKit Go.Maps Go.Proofs.Ytinfjmdcmfpdiaa.Rt Go.Proofs.Ytinfjmdcmfpdiaa.Md Go.Proofs.Ytinfjmdcmfpdiaa.Al Go.Proofs.Ytinfjmdcmfpdiaa.Pc Go.Proofs.Ytinfjmdcmfpdiaa.Fn Go.Proofs.Ytinfjmdcmfpdiaa.Nm Go.Proofs.Ytinfjmdcmfpdiaa.Lw Go.Proofs.YtinfjmdcmfpdiaaW.PrintWords Go.Proofs.YtinfjmdcmfpdiaaW.PrintLast Go.Proofs.YtinfjmdcmfpdiaaW.PrintMore
set_option linter.unusedVariables false
set_option linter.unusedSimpArgs false

set_option maxHeartbeats 32000000 in
set_option maxRecDepth 100000 in
theorem set_any (A0 : Option Addr) (c0 : Nat) (l0 : List Ac) (w : World) (hr0 : Kd.C kA w A0 l0.length l0) (hc0 : l0.length ≤ c0) (hw : ∀ x ∈ l0, (Lit.int .i64 x.2.2).wf = true) :
    Calls Try.prog 9 #[.slice A0 l0.length c0] w fun e w' => e = .returned (.bool true) ∧ Below w.heap.size w w' := by
  obtain ⟨t, ht1, ht2, ht3, htC, htS⟩ := acts_t A0 c0 l0 hc0 hw
  have HR := Lib.hid (htC w hr0)
  have H0 := Lib.hid hr0
  have HS := Lib.hid htS
  have HN := Lib.hid ht1
  clear htC htS hr0 ht1 hw
  have hmm := @run_makeMap Try.prog
  go_enter Try.func9, Try.ntmps9
  go_wp2_with fail
  refine (P.moatlaw12_shown.calls true _ rfl).mono ?_
  rintro e w1 ⟨rfl, hb⟩
  have hb1 := Lib.hid hb
  clear hb
  go_wp2_with fail
  refine (HS.out _ (Kd.C_below H0.out (below_alloc hb1.out _))).mono ?_
  rintro e w2 ⟨rfl, hb⟩
  have hE : Be w w1.heap.size 0 [] (.map []) (.slice none 0 0) w2 := ⟨⟨.nil, by simp [names], by simp⟩, .inl rfl, Nat.le_refl _, HasS.empty, Kd.R_nil _ _ _ _ _, (World.ownsMap_made _ _ _ _).kept (grown_of_below hb.below none) (by simp), hb1.out.size, below_step (below_alloc hb1.out _) hb.below⟩
  clear hb
  go_wp2_with fail
  go_loopg [4, 28] t.length (fun g v i wr => ∃ (k : Nat) (s : List Sl) (Mp : DataW Unit), k + g = t.length ∧ i = .int .i64 (k : Int) ∧ Be w w1.heap.size k s Mp v wr)
  case atStart => exact ⟨0, [], .map [], by omega, rfl, hE⟩
  case round =>
    obtain ⟨k, s, Mp, hkg, rfl, hS⟩ := hrel
    clear hE
    cases gk with
    | zero =>
      obtain rfl : k = t.length := by omega
      have c1 : decide ((t.length : Int) < (t.length : Int)) = false := decide_eq_false (by omega)
      go_wp2_with fail
      go_ret
      exact ⟨rfl, hS.below⟩
    | succ g =>
      have hlt : k < t.length := by omega
      have c1 : decide ((k : Int) < (t.length : Int)) = true := decide_eq_true (by omega)
      have p1 : 0 ≤ (k : Int) := by omega
      have q1 : (k : Int) < (t.length : Int) := by omega
      obtain ⟨ad, e101, hx0, hx1, hx2⟩ := at_A (Kd.C_below HR.out hS.below) k hlt hlt
      cases e101
      have htx := HN.out _ (List.getElem_mem hlt)
      obtain ⟨⟨gone, n, ino⟩, hx⟩ : ∃ x, x = t[k] := ⟨_, rfl⟩
      rw [← hx] at hx0 hx1 hx2 htx
      clear hx
      simp only at hx0 hx1 hx2 htx
      have hnm : n.size ≤ maxLen := by have := htx.1; unfold maxLen; omega
      have hwf := Lib.hid htx.2
      clear htx
      have hbx := Lib.hid (blk_new wr (.cells #[.bool gone, .string n, .int .i64 ino] 51))
      have hSa := hS.alloc (.cells #[.bool gone, .string n, .int .i64 ino] 51)
      obtain ⟨a, hrun, -, ha64⟩ := hSa.look hnm
      have c3 : decide (a > 64) = false := decide_eq_false (by omega)
      obtain ⟨is, his⟩ : ∃ b, hasN (names s) n = b := ⟨_, rfl⟩
      rw [his] at hrun
      obtain ⟨Av, cv, ev, hcv, hrv⟩ := Kd.R_reads hS.row
      subst ev
      replace hrv := Lib.hid (Kd.C_below hrv (below_alloc (Below.refl _ _) (.cells #[.bool gone, .string n, .int .i64 ino] 51)))
      have hin : Hid (n ∈ names s ↔ is = true) := Lib.hid (by rw [← his]; exact (hasN_iff _ _).symm)
      clear his ha64
      have hkm : Hid (k < maxLen) := Lib.hid (by unfold maxLen; omega)
      go_upto_if 41 with fail
      go_cut [4, 28] from 28 to 191 (fun v i wc => i = .int .i64 (k : Int) ∧ ∃ (s' : List Sl) (D' : DataW Unit), Be w w1.heap.size (k + 1) s' D' v wc)
      case first =>
        clear hrun
        cases gone with
        | true => cases is with
          | true =>
            obtain ⟨s', a1, b1, i1, hrm, hg', htr', hl', e1, e2⟩ := set_rm hS.good (hin.out.2 rfl)
            replace e1 := Lib.hid e1
            replace e2 := Lib.hid e2
            replace hrm := Lib.hid hrm
            go_wp2_with fail
            refine (rm_eq Av cv (bytesS s) n (bytesS s') 0 _ hnm (bytesS_bytes hS.good.ok) hrv.out hcv hrm.out).mono ?_
            rintro e w3 ⟨v3, rfl, ho3, hb3⟩
            have hS3 := hSa.step hb3
            have d1 : w3.cell? ⟨wr.heap.size, 1, none⟩ = some (.string n) := (blk_cell (blk_below hbx.out hb3) 1).trans rfl
            replace ho3 := Lib.hid ho3
            clear hb3
            go_wp2_with (at_delete; refine wpList_delete_own _ rfl _ _ 48 9 rfl 3 (Maps.string_keyed Try.underlying9) Try.underlying48 _ w1.heap.size k Mp rfl hS3.map _ (.string n.data.toList) rfl (WideMaps.keyOf_string_mk Try.underlying9 hnm) ?_; intro w4 hM4 hT4; have hS4 := hS3.lost ho3.out hSa.lt hSa.below.size hg' htr' hl' e1.out e2.out hM4 hT4; clear hM4 hT4)
            go_meet
            exact ⟨rfl, _, _, hS4⟩
          | false =>
            have hrm := Lib.hid (set_rm_no hS.good (fun h => Bool.false_ne_true (hin.out.1 h)))
            go_wp2_with fail
            refine (rm_eq Av cv (bytesS s) n [] 2 _ hnm (bytesS_bytes hS.good.ok) hrv.out hcv hrm.out).mono ?_
            rintro e w3 ⟨v3, rfl, ho3, hb3⟩
            have hS3 := hSa.step hb3
            clear ho3 hb3
            go_wp2_with fail
            go_meet
            exact ⟨rfl, _, _, hS3.more⟩
        | false =>
          obtain ⟨r, hr⟩ : ∃ r, rightB n.data.toList = r := ⟨_, rfl⟩
          have hR := Lib.hid (right_eq n hr)
          by_cases hok : okE (n, ino)
          · have hr2 : rightB n.data.toList = true := hok.1
            obtain rfl : r = true := hr.symm.trans hr2
            have g1 : decide (ino ≥ 0) = true := decide_eq_true hok.2.1
            have g2 : decide (ino < 64) = true := decide_eq_true hok.2.2
            clear hr hr2
            cases is with
            | true =>
              have hadd := Lib.hid (set_there hS.good hok (hin.out.2 rfl))
              go_wp2_with fail
              refine (add_eq Av cv (bytesS s) n ino [] 3 _ hnm (bytesS_bytes hS.good.ok) hrv.out hcv hadd.out).mono ?_
              rintro e w3 ⟨v3, rfl, ho3, hb3⟩
              have hS3 := hSa.step hb3
              replace hbx := Lib.hid (blk_below hbx.out hb3)
              have d1 : w3.cell? ⟨wr.heap.size, 1, none⟩ = some (.string n) := (blk_cell hbx.out 1).trans rfl
              replace ho3 := Lib.hid ho3
              clear hb3
              go_wp2_with fail
              refine (P.entry_Right.calls n _ _ hR.out).mono ?_
              rintro e w4 ⟨rfl, hb4⟩
              have hS4 := hS3.step hb4
              replace ho3 := Lib.hid (Kd.R_below ho3.out hb4)
              replace hbx := Lib.hid (blk_below hbx.out hb4)
              clear d1
              have d1 : w4.cell? ⟨wr.heap.size, 1, none⟩ = some (.string n) := (blk_cell hbx.out 1).trans rfl
              have d2 : w4.cell? ⟨wr.heap.size, 2, none⟩ = some (.int .i64 ino) := (blk_cell hbx.out 2).trans rfl
              clear hb4
              go_wp2_with fail
              go_meet
              exact ⟨rfl, _, _, hS4.more⟩
            | false =>
              obtain ⟨s', a1, b1, hadd, hg', htr', hl', e1, e2⟩ := set_add hS.good hS.tr (by have := hS.len; omega) hok (fun h => Bool.false_ne_true (hin.out.1 h))
              replace e1 := Lib.hid e1
              replace e2 := Lib.hid e2
              replace hadd := Lib.hid hadd
              go_wp2_with fail
              refine (add_eq Av cv (bytesS s) n ino (bytesS s') 0 _ hnm (bytesS_bytes hS.good.ok) hrv.out hcv hadd.out).mono ?_
              rintro e w3 ⟨v3, rfl, ho3, hb3⟩
              have hS3 := hSa.step hb3
              replace hbx := Lib.hid (blk_below hbx.out hb3)
              have d1 : w3.cell? ⟨wr.heap.size, 1, none⟩ = some (.string n) := (blk_cell hbx.out 1).trans rfl
              replace ho3 := Lib.hid ho3
              clear hb3
              go_wp2_with fail
              refine (P.entry_Right.calls n _ _ hR.out).mono ?_
              rintro e w4 ⟨rfl, hb4⟩
              have hS4 := hS3.step hb4
              replace ho3 := Lib.hid (Kd.R_below ho3.out hb4)
              replace hbx := Lib.hid (blk_below hbx.out hb4)
              clear d1
              have d1 : w4.cell? ⟨wr.heap.size, 1, none⟩ = some (.string n) := (blk_cell hbx.out 1).trans rfl
              have d2 : w4.cell? ⟨wr.heap.size, 2, none⟩ = some (.int .i64 ino) := (blk_cell hbx.out 2).trans rfl
              clear hb4
              go_wp2_with (at_mapUpdate; refine wpList_mapUpdate_own _ rfl _ _ _ 48 rfl 9 3 (Maps.string_keyed Try.underlying9) Try.underlying48 _ w1.heap.size k Mp rfl hS4.map hkm.out _ _ _ rfl rfl (WideMaps.keyOf_string_mk Try.underlying9 hnm) _ [] (plainElem_int Try.underlying3 hwf.out) ?_; intro w5 hM5 hT5; have hS5 := hS4.won ho3.out hSa.lt hSa.below.size hg' htr' hl' e1.out e2.out hM5 hT5; clear hM5 hT5)
              go_meet
              exact ⟨rfl, _, _, hS5⟩
          · obtain ⟨E, hadd, hE0⟩ := set_bad hS.good hok
            have g0 : (E == 0) = false := beq_eq_false_iff_ne.2 hE0
            replace hadd := Lib.hid hadd
            have hbad : r = false ∨ (r = true ∧ decide (ino ≥ 0) = false) ∨ (r = true ∧ decide (ino ≥ 0) = true ∧ decide (ino < 64) = false) := by
              cases r with
              | false => exact .inl rfl
              | true =>
                right
                by_cases h1 : 0 ≤ ino
                · right; exact ⟨rfl, decide_eq_true h1, decide_eq_false (fun h2 => hok ⟨hr, h1, h2⟩)⟩
                · left; exact ⟨rfl, decide_eq_false h1⟩
            clear hr hok hE0
            rcases hbad with rfl | ⟨rfl, g1⟩ | ⟨rfl, g1, g2⟩ <;> cases is
            all_goals
              go_wp2_with fail
              refine (add_eq Av cv (bytesS s) n ino [] E _ hnm (bytesS_bytes hS.good.ok) hrv.out hcv hadd.out).mono ?_
              rintro e w3 ⟨v3, rfl, ho3, hb3⟩
              have hS3 := hSa.step hb3
              replace hbx := Lib.hid (blk_below hbx.out hb3)
              have d1 : w3.cell? ⟨wr.heap.size, 1, none⟩ = some (.string n) := (blk_cell hbx.out 1).trans rfl
              replace ho3 := Lib.hid ho3
              clear hb3
              go_wp2_with fail
              refine (P.entry_Right.calls n _ _ hR.out).mono ?_
              rintro e w4 ⟨rfl, hb4⟩
              have hS4 := hS3.step hb4
              replace ho3 := Lib.hid (Kd.R_below ho3.out hb4)
              replace hbx := Lib.hid (blk_below hbx.out hb4)
              clear d1
              have d1 : w4.cell? ⟨wr.heap.size, 1, none⟩ = some (.string n) := (blk_cell hbx.out 1).trans rfl
              have d2 : w4.cell? ⟨wr.heap.size, 2, none⟩ = some (.int .i64 ino) := (blk_cell hbx.out 2).trans rfl
              clear hb4
              go_wp2_with fail
              go_meet
              exact ⟨rfl, _, _, hS4.more⟩
      case rest =>
        obtain ⟨rfl, s', D', hS'⟩ := hcut
        clear hS hSa hrun hx0 hx1 hx2 hin hrv hcv hbx hwf hkm c3
        obtain ⟨Aw, cw, ev, hcw, hrw⟩ := Kd.R_reads hS'.row
        subst ev
        replace hrw := Lib.hid hrw
        obtain ⟨L, hL⟩ : ∃ L, L = (ents s').map entOf := ⟨_, rfl⟩
        replace hL := Lib.hid hL
        go_wp2_with fail
        refine (all_eq Aw cw (bytesS s') L _ (bytesS_bytes hS'.good.ok) hrw.out hcw (by rw [set_all hS'.good, hL.out])).mono ?_
        rintro e w5 ⟨v5, rfl, ho5, hb5⟩
        have hS5 := hS'.step hb5
        obtain ⟨A5, c5, ev, hc5, hr5⟩ := Kd.R_reads ho5
        subst ev
        replace hr5 := Lib.hid hr5
        clear ho5
        have hlr := hS5.len_run
        rw [show (ents s').length = L.length by rw [hL.out, List.length_map]] at hlr
        have cm : (((bytesS s').length : Int) % 16 != 0) = false := by rw [bne_eq_false_iff_eq, bytesS_len hS'.good.ok]; omega
        have hz2 : Hid (L.length = 0 → (bytesS s').length = 0) := Lib.hid (fun h => by
          have h2 : s' = [] := hS'.tr.nil_of (by rw [hL.out, List.length_map] at h; exact List.eq_nil_of_length_eq_zero h)
          rw [h2]; rfl)
        clear hb5
        by_cases hz : L.length = 0
        · have c6 : ((L.length : Int) == 0) = true := by rw [hz]; rfl
          have c7 : decide (((bytesS s').length : Int) > 0) = false := decide_eq_false (by have := hz2.out hz; omega)
          have c8 : ¬ 0 < (bytesS s').length := by have := hz2.out hz; omega
          clear hz hz2
          go_wp2_with fail
          go_loopg [155] L.length (fun g i wi => ∃ j : Nat, j + g = L.length ∧ i = .int .i64 (j : Int) ∧ Be w w1.heap.size (k + 1) s' D' (.slice Aw (bytesS s').length cw) wi ∧ Hid (Kd.C (Kd.int .u8) wi Aw (bytesS s').length (bytesS s')) ∧ Hid (Kd.C D.k23 wi A5 L.length L))
          case atStart => exact ⟨0, by omega, rfl, hS5, Lib.hid (Kd.R_reads' hS5.row).2.2, hr5⟩
          case round =>
            obtain ⟨j, hjg, rfl, hSi, hCw, hCi⟩ := hrel
            clear hS5 hr5 hrw hlr c6 cm c7 c8
            cases gk with
            | zero =>
              obtain rfl : j = L.length := by omega
              have c1 : decide ((L.length : Int) < (L.length : Int)) = false := decide_eq_false (by omega)
              go_wp2_with fail
              go_roundg g
              case measure => omega
              case rel => exact ⟨k + 1, s', D', by omega, by go_num, hSi⟩
            | succ g2 =>
              have hj : j < L.length := by omega
              have hj2 : j < 240 := by have h1 := hSi.good.room; have h2 : (ents s').length ≤ s'.length := List.length_filterMap_le _ _; rw [hL.out, List.length_map] at hj; omega
              have c1 : decide ((j : Int) < (L.length : Int)) = true := decide_eq_true (by omega)
              have p1 : 0 ≤ (j : Int) := by omega
              have q1 : (j : Int) < (L.length : Int) := by omega
              obtain ⟨ad5, nm, i, e105, hmem, hy0, hy1⟩ := at_L hL.out hCi.out j hj hj
              cases e105
              have hok5 := hSi.good.ok _ (mem_ents.1 hmem)
              have hn5 : nm.size ≤ maxLen := by have := (right_size hok5.1).2; simp only at this; unfold maxLen; omega
              have hin5 : hasN (names s') nm = true := (hasN_iff _ _).2 (names_mem.2 ⟨i, mem_ents.1 hmem⟩)
              have hSb := hSi.alloc (.cells #[.string nm, .int .i64 i] 23)
              obtain ⟨a5, hrun, ha5, -⟩ := hSb.look hn5
              rw [hin5, ha5 i hmem] at hrun
              have hf5 := Lib.hid (set_find hS'.good hmem)
              have hbx := Lib.hid (blk_new wr (.cells #[.string nm, .int .i64 i] 23))
              clear ha5 hin5 hok5 hmem
              replace hCw := Lib.hid (Kd.C_below hCw.out (below_alloc (Below.refl _ _) (.cells #[.string nm, .int .i64 i] 23)))
              replace hCi := Lib.hid (Kd.C_below hCi.out (below_alloc (Below.refl _ _) (.cells #[.string nm, .int .i64 i] 23)))
              go_wp2_with fail
              refine (find_eq Aw cw (bytesS s') nm i true _ hn5 (bytesS_bytes hS'.good.ok) hCw.out hcw hf5.out).mono ?_
              rintro e w6 ⟨rfl, hb6⟩
              have hS6 := hSb.step hb6
              have d1 : w6.cell? ⟨wr.heap.size, 1, none⟩ = some (.int .i64 i) := (blk_cell (blk_below hbx.out hb6) 1).trans rfl
              replace hCw := Lib.hid (Kd.C_below hCw.out hb6)
              replace hCi := Lib.hid (Kd.C_below hCi.out hb6)
              clear hb6
              go_wp2_with fail
              go_roundg g2
              case measure => omega
              case rel => exact ⟨j + 1, by omega, by go_num, hS6, hCw, hCi⟩
        · have c6 : ((L.length : Int) == 0) = false := beq_eq_false_iff_ne.2 (by omega)
          clear hz hz2
          go_wp2_with fail
          go_loopg [155] L.length (fun g i wi => ∃ j : Nat, j + g = L.length ∧ i = .int .i64 (j : Int) ∧ Be w w1.heap.size (k + 1) s' D' (.slice Aw (bytesS s').length cw) wi ∧ Hid (Kd.C (Kd.int .u8) wi Aw (bytesS s').length (bytesS s')) ∧ Hid (Kd.C D.k23 wi A5 L.length L))
          case atStart => exact ⟨0, by omega, rfl, hS5, Lib.hid (Kd.R_reads' hS5.row).2.2, hr5⟩
          case round =>
            obtain ⟨j, hjg, rfl, hSi, hCw, hCi⟩ := hrel
            clear hS5 hr5 hrw hlr c6 cm
            cases gk with
            | zero =>
              obtain rfl : j = L.length := by omega
              have c1 : decide ((L.length : Int) < (L.length : Int)) = false := decide_eq_false (by omega)
              go_wp2_with fail
              go_roundg g
              case measure => omega
              case rel => exact ⟨k + 1, s', D', by omega, by go_num, hSi⟩
            | succ g2 =>
              have hj : j < L.length := by omega
              have hj2 : j < 240 := by have h1 := hSi.good.room; have h2 : (ents s').length ≤ s'.length := List.length_filterMap_le _ _; rw [hL.out, List.length_map] at hj; omega
              have c1 : decide ((j : Int) < (L.length : Int)) = true := decide_eq_true (by omega)
              have p1 : 0 ≤ (j : Int) := by omega
              have q1 : (j : Int) < (L.length : Int) := by omega
              obtain ⟨ad5, nm, i, e105, hmem, hy0, hy1⟩ := at_L hL.out hCi.out j hj hj
              cases e105
              have hok5 := hSi.good.ok _ (mem_ents.1 hmem)
              have hn5 : nm.size ≤ maxLen := by have := (right_size hok5.1).2; simp only at this; unfold maxLen; omega
              have hin5 : hasN (names s') nm = true := (hasN_iff _ _).2 (names_mem.2 ⟨i, mem_ents.1 hmem⟩)
              have hSb := hSi.alloc (.cells #[.string nm, .int .i64 i] 23)
              obtain ⟨a5, hrun, ha5, -⟩ := hSb.look hn5
              rw [hin5, ha5 i hmem] at hrun
              have hf5 := Lib.hid (set_find hS'.good hmem)
              have hbx := Lib.hid (blk_new wr (.cells #[.string nm, .int .i64 i] 23))
              clear ha5 hin5 hok5 hmem
              replace hCw := Lib.hid (Kd.C_below hCw.out (below_alloc (Below.refl _ _) (.cells #[.string nm, .int .i64 i] 23)))
              replace hCi := Lib.hid (Kd.C_below hCi.out (below_alloc (Below.refl _ _) (.cells #[.string nm, .int .i64 i] 23)))
              go_wp2_with fail
              refine (find_eq Aw cw (bytesS s') nm i true _ hn5 (bytesS_bytes hS'.good.ok) hCw.out hcw hf5.out).mono ?_
              rintro e w6 ⟨rfl, hb6⟩
              have hS6 := hSb.step hb6
              have d1 : w6.cell? ⟨wr.heap.size, 1, none⟩ = some (.int .i64 i) := (blk_cell (blk_below hbx.out hb6) 1).trans rfl
              replace hCw := Lib.hid (Kd.C_below hCw.out hb6)
              replace hCi := Lib.hid (Kd.C_below hCi.out hb6)
              clear hb6
              go_wp2_with fail
              go_roundg g2
              case measure => omega
              case rel => exact ⟨j + 1, by omega, by go_num, hS6, hCw, hCi⟩
end Go.Proofs.Ytinfjmdcmfpdiaa.St

/- EntrySet's argument, opened: a row of acts. -/
namespace Go.Proofs.Ytinfjmdcmfpdiaa.St
open Go.RowKit Go.Deep Go.ChangeShapes Go.WideShapes Go.Proofs.YtinfjmdcmfpdiaaW.PrintWords
set_option linter.unusedVariables false
set_option linter.unusedSimpArgs false
theorem cells_act : Try.prog.cellsOf 51 = 3 := by kernel_rfl
theorem cells_ent : Try.prog.cellsOf 23 = 2 := by kernel_rfl
theorem cells_bool : Try.prog.cellsOf 4 = 1 := by kernel_rfl
theorem cells_str : Try.prog.cellsOf 9 = 1 := by kernel_rfl
theorem cells_int : Try.prog.cellsOf 3 = 1 := by kernel_rfl
section
variable {H : Type} {enc : TypeId × Value → H} {W : World} {base : Nat} {sp : Nat → Bool} {held : Bool}
theorem open_act {fuel : Nat} {cs : List Value} {x : DataW H × List MemPlace} (h : DataW.trod enc Try.prog W base sp held fuel 51 cs = some x) : ∃ y : Ac, cs = [.bool y.1, .string y.2.1, .int .i64 y.2.2] ∧ (Lit.int .i64 y.2.2).wf = true := by
  obtain ⟨y0, y1, n, -, hl, h0, h1⟩ := trod_struct2 Try.underlying51 h
  rw [cells_act] at hl
  match cs, hl with
  | [c0, c1, c2], _ =>
    have k0 : DataW.trod enc Try.prog W base sp held n 4 ((([c0, c1, c2] : List Value).drop 0).take (Try.prog.cellsOf 4)) = some y0 := h0
    have k1 : DataW.trod enc Try.prog W base sp held n 23 ((([c0, c1, c2] : List Value).drop 1).take (Try.prog.cellsOf 23)) = some y1 := h1
    rw [cells_bool] at k0
    rw [cells_ent] at k1
    obtain ⟨b, e0, -⟩ := DataW.trod_bool Try.underlying4 k0
    obtain ⟨z0, z1, n2, -, -, g0, g1⟩ := trod_struct2 Try.underlying23 k1
    have m0 : DataW.trod enc Try.prog W base sp held n2 9 ((([c1, c2] : List Value).drop 0).take (Try.prog.cellsOf 9)) = some z0 := g0
    have m1 : DataW.trod enc Try.prog W base sp held n2 3 ((([c1, c2] : List Value).drop 1).take (Try.prog.cellsOf 3)) = some z1 := g1
    rw [cells_str] at m0
    rw [cells_int] at m1
    obtain ⟨s, e1, -, -⟩ := DataW.trod_string Try.underlying9 m0
    obtain ⟨i, e2, -, hw⟩ := DataW.trod_int Try.underlying3 m1
    simp at e0 e1 e2
    subst e0 e1 e2
    exact ⟨(b, (s, i)), rfl, hw⟩
/-- The row of acts that came in. -/
theorem open_acts {fuel : Nat} {a : Option Addr} {len cap : Nat} {x : DataW H × List MemPlace} (h : DataW.trod enc Try.prog W 0 (fun _ => true) held fuel 47 [.slice a len cap] = some x) :
    len ≤ cap ∧ ∃ l : List Ac, l.length = len ∧ Kd.C kA W a l.length l ∧ ∀ y ∈ l, (Lit.int .i64 y.2.2).wf = true := by
  rcases open_slice Try.underlying47 h with ⟨hcs, _⟩ | ⟨ad, l, c, m, n, Dd, Pl, hcs, hb, hl, hm, hmm, hx, hi⟩
  · simp at hcs
    obtain ⟨rfl, rfl, rfl⟩ := hcs
    exact ⟨Nat.le_refl _, [], rfl, Kd.C_nil _ _, fun y hy => by cases hy⟩
  · simp at hcs
    obtain ⟨rfl, rfl, rfl⟩ := hcs
    have hmc : m = cap := by rw [hmm]; rfl
    have hp : ∀ i, i < len → ∃ y : Ac, (∀ j u, ([.bool y.1, .string y.2.1, .int .i64 y.2.2] : List Value)[j]? = some u → W.cell? (ad.add (i * 3 + j)) = some u) ∧ (Lit.int .i64 y.2.2).wf = true := by
      intro i hil
      obtain ⟨cs', hc, ht⟩ := hi i (by omega)
      obtain ⟨y, rfl, hw⟩ := open_act ht
      rw [cells_act] at hc
      obtain ⟨_, hcl, hat⟩ := World.cells?_some hc
      refine ⟨y, fun j u hj => ?_, hw⟩
      have hj3 : j < 3 := by
        have := (List.getElem?_eq_some_iff.1 hj).1
        simpa using this
      rw [← Go.Deep.add_add, hat j hj3, hj]
    obtain ⟨f, hf⟩ := choose_lt (α := Ac) hp
    have hlen : ((List.range len).map f).length = len := by simp
    refine ⟨hl, (List.range len).map f, hlen, ?_, ?_⟩
    · rw [hlen]
      refine ⟨hlen, by unfold maxLen at hm; omega, fun _ => ⟨ad, rfl, fun j p hj => ?_⟩⟩
      rw [List.getElem?_map] at hj
      by_cases hjl : j < len
      · rw [List.getElem?_range hjl] at hj
        simp at hj
        subst hj
        exact ⟨_, rfl, kA_mk W (f j), (hf j hjl).1⟩
      · rw [List.getElem?_eq_none (by simp; omega)] at hj; cases hj
    · intro y hy
      obtain ⟨j, hj, rfl⟩ := List.mem_map.1 hy
      exact (hf j (List.mem_range.1 hj)).2
end
end Go.Proofs.Ytinfjmdcmfpdiaa.St
