/- Walks and plain laws on which the claim stands, several texts joined. -/
import Derived.Test.YtpbijdalfeaheaaM2
import Derived.Great.BuildSlice

/- disk: Write. -/
namespace Go.Proofs.Ytpbijdalfeaheaa.Tf
open Go.RowKit Go.Proofs.YtpbijdalfeaheaaW.PrintWords Go.Proofs.YtpbijdalfeaheaaW.PrintLast Go.Proofs.YtpbijdalfeaheaaW.PrintMore
set_option linter.unusedVariables false
set_option linter.unusedSimpArgs false
/-- Many cells are loaded, from wherever they lie. -/
theorem load_any (w : World) (ad : Addr) (ty : TypeId) (cs : List Value) (d : TypeDesc) (hc : ∀ j v, cs[j]? = some v → w.cell? (ad.add j) = some v)
    (hu : Try.prog.underlying ty = some d) (hd : d.isRow = true) (hi : (Try.prog.info? ty).map (·.size) = some cs.length) :
    (Instr.loadAt ty (.pointer (some ad))).run Try.prog w = .ok (.agg cs.toArray) w := by
  have hl : (loadCells ad cs.length).run Try.prog w = .ok cs.toArray w := run_loadCells_list (P := Try.prog) w ad cs hc
  cases hq : Try.prog.info? ty with
  | none => simp [hq] at hi
  | some i =>
    have hs : i.size = cs.length := by simpa [hq] using hi
    have hagg : (isAgg ty).run Try.prog w = .ok true w := by
      unfold isAgg
      rw [Sem.run_bind, run_underlying hu w]
      cases d <;> simp_all
    have hv : (loadVar ty ad).run Try.prog w = .ok (.agg cs.toArray) w := by simp [loadVar, Sem.run_bind, hagg, sizeOf, typeInfo, hq, hs, hl]
    simp only [Instr.loadAt, Instr.sureAddr, Sem.run_bind, Sem.run_pure, Result.andThen_ok, hv]
theorem yieldsIf_load_any {ops : Array Oper} {S : World → Prop} {op : Oper} {a : Act} (hw : Region.wanted op (yielded ops a.tmps) = true) (ty : TypeId) (x : Operand) (ho : op.op = .load ty x)
    (ad : Addr) (hx : a.eval x = .pointer (some ad)) (cs : List Value) (d : TypeDesc) (hS : ∀ w, S w → ∀ j v, cs[j]? = some v → w.cell? (ad.add j) = some v)
    (hu : Try.prog.underlying ty = some d) (hd : d.isRow = true) (hi : (Try.prog.info? ty).map (·.size) = some cs.length) : YieldsIf Try.prog ops S op (.agg cs.toArray) a :=
  .inl ⟨hw, fun w hw' => by
    unfold execOp
    simp only [ho, hx, Sem.run_bind, Sem.run_pure, Result.andThen_ok, load_any w ad ty cs d (hS w hw') hu hd hi]⟩
/-- A struct is built, whatever the world. -/
theorem yields_build {ops : Array Oper} {op : Oper} {a : Act} (hw : Region.wanted op (yielded ops a.tmps) = true) (t : TypeId) (parts : Array (Nat × Operand)) (ho : op.op = .build t parts) (vals : List (Nat × Value)) (cells : Array Value)
    (hv : (parts.map fun (i, x) => (i, a.eval x)).toList = vals) (hb : Try.prog.built t vals = some cells) : Yields Try.prog ops op (.agg cells) a :=
  .inl ⟨hw, fun w => by
    subst hv
    unfold execOp
    simp only [ho, Sem.run_bind, run_build w t _ cells hb, Sem.run_pure, Result.andThen_ok]⟩
theorem sz_arr : (Try.prog.info? 93).map (·.size) = some 64 := by kernel_rfl
/-- A patch: its sector, its bytes, no tag. -/
def patchV (i : Int) (A : Option Addr) (n c : Nat) : Value := .agg #[.int .i64 i, .slice A n c, .int .u16 0]
/-- What a write leaves. -/
def Dk.put (D : Dk) (i : Nat) (s : List Int) : Dk := { D with secs := D.secs.set i s, waits := D.waits ++ [(i, D.secs.getD i [], s)] }
theorem run_exec_store {o : Oper} {a : Act} {W W1 : World} {ty : TypeId} {x y : Operand} {p v : Value} (ho : o.op = .store ty x y) (hx : a.eval x = p) (hy : a.eval y = v) (hrun : (Instr.storeAt ty p v).run Try.prog W = .ok () W1) :
    (execOp a.eval o).run Try.prog W = .ok .skip W1 := by
  unfold execOp
  simp only [ho, hx, hy, Sem.run_bind, Sem.run_pure, Result.andThen_ok, hrun]
theorem run_exec_append {o : Oper} {a : Act} {W W1 : World} {t : TypeId} {s x : Operand} {v u v1 : Value} (ho : o.op = .call { callee := .builtin .append, args := #[s, x], argTypes := #[t, t] }) (hs : a.eval s = v) (hx : a.eval x = u)
    (hrun : (Builtin.append_ #[t, t] o.type #[v, u]).run Try.prog W = .ok v1 W1) : (execOp a.eval o).run Try.prog W = .ok (.value v1) W1 := by
  unfold execOp
  simp only [ho, resolve, invoke, builtin, Sem.run_bind, Sem.run_pure, Result.andThen_ok, List.map_toArray, List.map_cons, List.map_nil, hs, hx, hrun]
theorem run_exec_buildSlice1 {o : Oper} {a : Act} {W W1 : World} {t : TypeId} {x : Operand} {u v : Value} (ho : o.op = .buildSlice t 1 #[(0, x)]) (hx : a.eval x = u)
    (hrun : (Instr.buildSlice t 1 #[(0, u)]).run Try.prog W = .ok v W1) : (execOp a.eval o).run Try.prog W = .ok (.value v) W1 := by
  unfold execOp
  simp only [ho, Sem.run_bind, Sem.run_pure, Result.andThen_ok, List.map_toArray, List.map_cons, List.map_nil, hx, hrun]
theorem info_wait : (Try.prog.info? 97).map (fun i => (i.zero, i.size, i.bytes)) = some (some (.agg Try.zeroCells97), 131, 144) := by kernel_rfl
/-- One element, as a slice. -/
theorem build_one (t e : TypeId) (z : Array Value) (n bytes : Nat) (ht : Try.prog.underlying t = some (.slice e)) (hinfo : (Try.prog.info? e).map (fun i => (i.zero, i.size, i.bytes)) = some (some (.agg z), n, bytes)) (hz : z.size = n) (hn : 0 < n) (hn2 : n ≤ 16777216) (cs : Array Value) (hc : cs.size = n) (W : World) :
    (Instr.buildSlice t 1 #[(0, .agg cs)]).run Try.prog W = .ok (.slice (some ⟨W.heap.size, 0, none⟩) 1 1) (W.alloc (.cells cs e)) := by
  obtain ⟨i0, hi, hzz⟩ := Option.map_eq_some_iff.1 hinfo
  simp only [Prod.mk.injEq] at hzz
  obtain ⟨hz0, hz1, hz2⟩ := hzz
  refine run_buildSlice W t e 1 _ cs i0 _ ht hi hz0 (by rw [hz1]; omega) (by rw [hz1]; omega) ?_
  have h := Great.fill_whole hn [Value.agg cs] ((Array.range (1 * n)).map ((Value.agg z).cells[· % (Value.agg z).cells.size]!)) (fun v hv => by rw [List.mem_singleton.1 hv]; exact hc) (by simp)
  rw [hz1]
  refine Eq.trans h ?_
  simp [Value.cells]
theorem wait_one (i : Nat) (s s' : List Int) (hs : s.length = 64) (hs' : s'.length = 64) (W : World) :
    (Instr.buildSlice 90 1 #[(0, .agg (waitC (i, s, s')).toArray)]).run Try.prog W = .ok (.slice (some ⟨W.heap.size, 0, none⟩) 1 1) (W.alloc (.cells (waitC (i, s, s')).toArray 97)) :=
  build_one _ _ _ 131 _ Try.underlying90 info_wait zero97 (by decide) (by decide) _ (by simp [waitC, secC_len65 hs, secC_len65 hs']) W
/-- A block of one element is read. -/
theorem C_flat1 {α : Type} {n : Nat} {enc : α → List Value} {h1 : ∀ x, ∀ u ∈ enc x, u.oneCell' = true} {W : World} {g : Nat} {t : TypeId} {x : α} (h : W.heap[g]? = some (.cells (enc x).toArray t (0, 0))) (hn : (enc x).length = n) : (flat n enc h1).C W (some ⟨g, 0, none⟩) 1 [x] := by
  refine ⟨rfl, by decide, fun _ => ⟨_, rfl, fun j p hj => ?_⟩⟩
  cases j with
  | zero =>
    have hp : x = p := by simpa using hj
    subst hp
    refine ⟨enc x, hn, ⟨rfl, hn⟩, fun i u hi => ?_⟩
    rw [Addr.add_mid, blk_cell h]
    simpa using hi
  | succ j => simp at hj
theorem R_base' {α : Type} {d : Kd α} {e base : Nat} {W : World} {ok : Nat → Prop} {v : Value} {xs : List α} (h : d.R e W base ok v xs) : ∀ k, v.ownBlock = some k → base ≤ k := by
  obtain ⟨_, inner, ho, _⟩ := h
  exact own_base ho
theorem R_ok {α : Type} {d : Kd α} {e base : Nat} {W : World} {ok : Nat → Prop} {v : Value} {xs : List α} (h : d.R e W base ok v xs) : ∀ k, v.ownBlock = some k → ok k := h.1
/-- What is read as bytes is not the disk's struct. -/
theorem bytes_ne {W : World} {gd gs n m : Nat} {vw : Value} {dead : Bool} {fuse done : Int} {t : TypeId} {ad : Addr} {s : List Int} (hb : W.heap[gd]? = some (.cells (discs gs n vw dead fuse done) t (0, 0))) (hvw : ∃ A l c, vw = .slice A l c) (hC : Kd.C (Kd.int .u8) W (some ad) m s) (hm : 0 < m) : ad.block ≠ gd := by
  obtain ⟨A, l, c, rfl⟩ := hvw
  have hl := hC.1
  obtain ⟨ad', e, hc⟩ := hC.2.2 hm
  injection e with e
  subst e
  obtain ⟨x, hx⟩ : ∃ x, s[0]? = some x := ⟨s[0], List.getElem?_eq_getElem (by omega)⟩
  obtain ⟨cs, _, hr, hcc⟩ := hc 0 x hx
  have hr2 : cs = [.int .u8 x] := hr
  subst hr2
  have h2 := hcc 0 _ rfl
  rintro rfl
  have e0 : ad.add (0 * (Kd.int .u8).sz + 0) = ad := by
    have : (0 * (Kd.int .u8).sz + 0) = 0 := by simp
    rw [this]; unfold Addr.add; simp
  rw [e0] at h2
  unfold World.cell? at h2
  rw [hb] at h2
  simp only at h2
  split at h2
  · simp at h2
  · unfold discs at h2
    rcases ho : ad.off with _ | _ | _ | _ | _ | k <;> rw [ho] at h2 <;> simp at h2
theorem harr (ad : Addr) (c : Nat) (W : World) : (Instr.arrayAt 93 (.slice (some ad) 64 c)).run Try.prog W = .ok (.pointer (some ad)) W := by
  simp [Instr.arrayAt, run_underlying Try.underlying93]
/-- Many cells are stored into a block. -/
theorem store_mid {W : World} {g o : Nat} {t ty : TypeId} {cs vs : List Value} (hg : W.heap[g]? = some (.cells cs.toArray t (0, 0))) (hi : (Try.prog.info? ty).map (·.size) = some vs.length) (hf : o + vs.length ≤ cs.length) (h1 : ∀ v ∈ vs, v.oneCell' = true) :
    (Instr.storeAt ty (.pointer (some ⟨g, o, none⟩)) (.agg vs.toArray)).run Try.prog W = .ok () (W.setRow g (cs.take o ++ vs ++ cs.drop (o + vs.length)).toArray) := by
  have h := run_storeCells_at Try.prog g o t vs 0 cs.toArray W hg (by simpa using hf) h1
  simp only [Nat.add_zero] at h
  cases hq : Try.prog.info? ty with
  | none => simp [hq] at hi
  | some i =>
    have hs : vs.length = i.size := by simp [hq] at hi; omega
    have hv : (storeVar ty ⟨g, o, none⟩ (.agg vs.toArray)).run Try.prog W = .ok () (W.setRow g (cs.take o ++ vs ++ cs.drop (o + vs.length)).toArray) := by
      simp [storeVar, sizeOf, typeInfo, hq, Value.cells, hs.symm, h]
    simp only [Instr.storeAt, Instr.sureAddr, Sem.run_bind, Sem.run_pure, Result.andThen_ok, hv]
set_option maxHeartbeats 8000000 in
set_option maxRecDepth 100000 in
theorem write_ok (B gd gs : Nat) (D : Dk) (i c : Nat) (ad : Addr) (s : List Int) (w : World) (h : DiskAt w B gd gs D) (hB : B ≤ w.heap.size) (hl : D.live = true) (hi : i < 88) (hs : s.length = 64) (hC : Kd.C (Kd.int .u8) w (some ad) 64 s) (hwl : D.waits.length ≤ 4096) :
    Calls Try.prog 45 #[.pointer (some ⟨gd, 0, none⟩), patchV i (some ad) 64 c] w fun e w' => e = .returned (.int .i64 0) ∧ DiskAt w' B gd gs (D.tick.put i s) ∧ Fr (DS B gd gs) w w' := by
  have H := Lib.hid h
  have Hsl := Lib.hid hs
  have HC := Lib.hid hC
  have hgl : gd ≠ w.heap.size ∧ gs ≠ w.heap.size := by have := h.lt; omega
  clear h hs hC
  have q1 : (i : Int) < 88 := by omega
  have q0 : 0 ≤ (i : Int) := by omega
  unfold patchV
  go_enter Try.func45, Try.ntmps45
  go_wp2_with fail
  obtain ⟨w1, hw1⟩ : ∃ w1, w.alloc (Obj.cells #[.int .i64 (i : Int), .slice (some ad) 64 c, .int .u16 0] 50) = w1 := ⟨_, rfl⟩
  have hB1 : Below w.heap.size w w1 := by rw [← hw1]; exact below_alloc (Below.refl _ _) _
  have hbx : w1.heap[w.heap.size]? = some (.cells #[.int .i64 (i : Int), .slice (some ad) 64 c, .int .u16 0] 50 (0, 0)) := by rw [← hw1]; exact blk_new _ _
  rw [hw1]
  replace hw1 := Lib.hid hw1
  have H1 := Lib.hid (H.out.below hB1)
  have x1 := blk_cell hbx 1
  replace x1 : w1.cell? ⟨w.heap.size, 1, none⟩ = some (.slice (some ad) 64 c) := x1
  have Hbx := Lib.hid hbx
  have HB1 := Lib.hid hB1
  clear hbx hB1
  refine (there_yes B gd gs _ i w1 H1.out q0 q1).mono ?_
  rintro e w' ⟨rfl, rfl⟩
  go_wp2_with fail
  refine (power_ok B gd gs D w1 H1.out hl).mono ?_
  rintro e w2 ⟨rfl, h2, F2⟩
  have hbx2 := F2.blk Hbx.out (fun e => hgl.1 e.symm)
  have Hx1 := Lib.hid (blk_cell hbx2 1)
  have Hx2 := Lib.hid (blk_cell hbx2 2)
  have hbp := Lib.hid (blk_lt hbx2)
  have H2 := Lib.hid h2
  have HF2 := Lib.hid F2
  have Hbx2 := Lib.hid hbx2
  clear h2 F2 hbx2
  go_wp2_with fail
  have Hby : Hid (∀ w', Below w2.heap.size w2 w' → ∀ j v, (nums .u8 s)[j]? = some v → w'.cell? (ad.add j) = some v) := Lib.hid (fun w' hS j v hj => by
    obtain ⟨_, e, hc⟩ := C_src HC.out (by rw [nums_length, Hsl.out]; decide)
    injection e with e
    subst e
    have h := hc j v hj
    have hlt := World.block_lt_of_cell? w _ h
    have hne : ad.block ≠ gd := by
      obtain ⟨vw, done, hb, hR⟩ := H.out.hd
      obtain ⟨A, c, hv, _⟩ := Kd.R_reads hR
      exact bytes_ne hb ⟨_, _, _, hv⟩ HC.out (by decide)
    have h1 : w1.cell? (ad.add j) = some v := by rw [HB1.out.cell hlt]; exact h
    have hlt1 := World.block_lt_of_cell? w1 _ h1
    have h2 : w2.cell? (ad.add j) = some v := by rw [World.cell?_of_block (HF2.out.block _ hlt1 (by rw [add_block]; exact hne))]; exact h1
    rw [hS.cell (World.block_lt_of_cell? w2 _ h2)]; exact h2)
  have hfa := harr ad c
  refine start_ (n := 9) (S := (fun W => Below w2.heap.size w2 W)) (ds := [8]) #[false, false, false, false, false, false, false, false, false] (by kernel_rfl) rfl rfl (below_drew (Below.refl _ _)) (fun hHeld => ?_)
  refine pure_ (i := 0) (N := some 27) (v := ?_) (a' := ?_) #[true, false, false, false, false, false, false, false, false] rfl rfl (by kernel_rfl) (fun _ _ _ h => h) (Or.inl ⟨by rfl, ?_⟩) ?_ ?_
  rotate_left
  · intro w'
    go_simp
    with_reducible rfl
  rotate_left
  · simp only [Act.put, List.setIfInBounds_toArray, List.set_cons_zero, List.set_cons_succ, i64_w, i32_w]
    rfl
  refine take_ (i := 1) (N := some 28) (v := ?_) (a' := ?_) #[true, true, false, false, false, false, false, false, false] rfl rfl (by kernel_rfl) (fun _ _ _ h => h) (Or.inl ⟨by rfl, ?_⟩) hHeld ?_ ?_
  rotate_left
  · rintro w' hS
    have x1 := hS.cell (p := ⟨w.heap.size, 1, none⟩) hbp.out
    rw [Hx1.out] at x1
    go_simp
    with_reducible rfl
  rotate_left
  · simp only [Act.put, List.setIfInBounds_toArray, List.set_cons_zero, List.set_cons_succ, i64_w, i32_w]
    rfl
  refine pure_ (i := 2) (N := some 29) (v := ?_) (a' := ?_) #[true, true, true, false, false, false, false, false, false] rfl rfl (by kernel_rfl) (fun _ _ _ h => h) (Or.inl ⟨by rfl, ?_⟩) ?_ ?_
  rotate_left
  · intro w'
    go_simp
    with_reducible rfl
  rotate_left
  · simp only [Act.put, List.setIfInBounds_toArray, List.set_cons_zero, List.set_cons_succ, i64_w, i32_w]
    rfl
  refine take_ (i := 3) (N := some 30) (v := .agg (nums .u8 s).toArray) (a' := ?_) #[true, true, true, true, false, false, false, false, false] rfl rfl (by kernel_rfl) (fun _ _ _ h => h) (yieldsIf_load_any (by rfl) 93 (.tmp 29) rfl ad rfl (nums .u8 s) _ (fun w' hS j v hj => Hby.out w' hS j v hj) Try.underlying93 rfl (by rw [sz_arr]; simp [nums, Hsl.out])) hHeld ?_ ?_
  rotate_left
  · simp only [Act.put, List.setIfInBounds_toArray, List.set_cons_zero, List.set_cons_succ, i64_w, i32_w]
    rfl
  refine pure_ (i := 4) (N := some 31) (v := ?_) (a' := ?_) #[true, true, true, true, true, false, false, false, false] rfl rfl (by kernel_rfl) (fun _ _ _ h => h) (Or.inl ⟨by rfl, ?_⟩) ?_ ?_
  rotate_left
  · intro w'
    go_simp
    with_reducible rfl
  rotate_left
  · simp only [Act.put, List.setIfInBounds_toArray, List.set_cons_zero, List.set_cons_succ, i64_w, i32_w]
    rfl
  refine take_ (i := 5) (N := some 32) (v := ?_) (a' := ?_) #[true, true, true, true, true, true, false, false, false] rfl rfl (by kernel_rfl) (fun _ _ _ h => h) (Or.inl ⟨by rfl, ?_⟩) hHeld ?_ ?_
  rotate_left
  · rintro w' hS
    have x1 := hS.cell (p := ⟨w.heap.size, 2, none⟩) hbp.out
    rw [Hx2.out] at x1
    go_simp
    with_reducible rfl
  rotate_left
  · simp only [Act.put, List.setIfInBounds_toArray, List.set_cons_zero, List.set_cons_succ, i64_w, i32_w]
    rfl
  refine pure_ (i := 6) (N := some 33) (v := .agg (secC s).toArray) (a' := ?_) #[true, true, true, true, true, true, true, false, false] rfl rfl (by kernel_rfl) (fun _ _ _ h => h) (yields_build (by rfl) 95 #[(0, .tmp 30), (1, .tmp 32)] rfl _ (secC s).toArray (by simp only [List.map_toArray, List.map_cons, List.map_nil]; rfl) (sec_built s Hsl.out)) ?_ ?_
  rotate_left
  · simp only [Act.put, List.setIfInBounds_toArray, List.set_cons_zero, List.set_cons_succ, i64_w, i32_w]
    rfl
  refine one_ (i := 7) (N := some 6) #[true, true, true, true, true, true, true, true, false] rfl rfl (by kernel_rfl) (by decide) (fun K hK => ?_)
  rw [if_pos (by rfl)]
  unfold Oper.wp
  go_simp
  refine hK.out _ _ (below_alloc hHeld _) (fun hHeld => ?_)
  clear hK K
  obtain ⟨w3, hw3⟩ : ∃ w3, (w2.alloc (Obj.cells Try.zeroCells95 95)).drew = w3 := ⟨_, rfl⟩
  have hz3 : w3.heap[w2.heap.size]? = some (.cells Try.zeroCells95 95 (0, 0)) := by rw [← hw3]; exact blk_new w2 _
  have hB3 : Below w2.heap.size w2 w3 := by rw [← hw3]; exact below_drew (below_alloc (Below.refl _ _) _)
  rw [hw3]
  clear hw3 hHeld
  refine last_ (i := 8) (N := none) #[true, true, true, true, true, true, true, true, true] rfl rfl (by kernel_rfl) (by decide) (fun K hK => ?_)
  refine skip_ (by rfl) rfl (run_exec_store rfl rfl rfl (store_row (ty := 95) (cells := (secC s).toArray) hz3 (by rw [sz_sec]; simp [secC_len65 Hsl.out]) (by rw [zero95]; simp [secC_len65 Hsl.out]) (by simpa using secC_one s))) ?_
  refine hK.out _ _ ?_
  clear hK K
  refine done_ (by kernel_rfl) ?_
  obtain ⟨w4, hw4⟩ : ∃ w4, w3.setRow w2.heap.size (secC s).toArray = w4 := ⟨_, rfl⟩
  have hB4 : Below w2.heap.size w2 w4 := by rw [← hw4]; exact below_setRow hB3 (Nat.le_refl _) _
  have Hz4 := Lib.hid (show w4.heap[w2.heap.size]? = some (.cells (secC s).toArray 95 (0, 0)) by rw [← hw4]; exact setRow_heap _ _ _ _ _ _ hz3)
  rw [hw4]
  clear hw4 hz3 hB3 hHeld hfa
  have H4 := Lib.hid (H2.out.below hB4)
  obtain ⟨vw, done, hb4, hR4⟩ := H4.out.hd
  have Hx0 := Lib.hid (show w4.cell? ⟨w.heap.size, 0, none⟩ = some (.int .i64 (i : Int)) from blk_cell (blk_below Hbx2.out hB4) 0)
  have Hc0 := Lib.hid (show w4.cell? ⟨gd, 0, none⟩ = some (.slice (some ⟨gs, 0, none⟩) 88 88) from blk_cell hb4 0)
  have Hc1 := Lib.hid (show w4.cell? ⟨gd, 1, none⟩ = some vw from blk_cell hb4 1)
  have hil : i < D.secs.length := by rw [show D.secs.length = 88 from H4.out.num]; exact hi
  obtain ⟨old, hold⟩ : ∃ old, D.secs[i] = old := ⟨_, rfl⟩
  have Hol := Lib.hid (show old.length = 64 by rw [← hold]; exact H4.out.len _ (List.getElem_mem hil))
  have Hrng := Lib.hid (show w4.rangeAt gs (i * 65) (secC old) by rw [← hold]; exact H4.out.range i hil)
  have Hold := Lib.hid (show D.secs.getD i [] = old by rw [List.getD_eq_getElem?_getD, List.getElem?_eq_getElem hil, hold]; rfl)
  have Hlt4 := Lib.hid (show gd < w4.heap.size ∧ gs < w4.heap.size ∧ w.heap.size < w4.heap.size ∧ w2.heap.size < w4.heap.size from ⟨blk_lt hb4, blk_lt H4.out.hs, blk_lt (blk_below Hbx2.out hB4), blk_lt Hz4.out⟩)
  have HB4 := Lib.hid hB4
  have Hb4 := Lib.hid hb4
  have HR4 := Lib.hid hR4
  have Hil := Lib.hid hil
  clear hb4 hR4 hB4 hold hil
  go_wp2_with fail
  refine start_ (n := 22) (S := (fun W => Below w4.heap.size w4 W)) (ds := [18, 21]) #[false, false, false, false, false, false, false, false, false, false, false, false, false, false, false, false, false, false, false, false, false, false] (by kernel_rfl) rfl rfl (below_drew (Below.refl _ _)) (fun hHeld => ?_)
  refine pure_ (i := 0) (N := some 34) (v := ?_) (a' := ?_) #[true, false, false, false, false, false, false, false, false, false, false, false, false, false, false, false, false, false, false, false, false, false] rfl rfl (by kernel_rfl) (fun _ _ _ h => h) (Or.inl ⟨by rfl, ?_⟩) ?_ ?_
  rotate_left
  · intro w'
    go_simp
    with_reducible rfl
  rotate_left
  · simp only [Act.put, List.setIfInBounds_toArray, List.set_cons_zero, List.set_cons_succ, i64_w, i32_w]
    rfl
  refine pure_ (i := 1) (N := some 35) (v := ?_) (a' := ?_) #[true, true, false, false, false, false, false, false, false, false, false, false, false, false, false, false, false, false, false, false, false, false] rfl rfl (by kernel_rfl) (fun _ _ _ h => h) (Or.inl ⟨by rfl, ?_⟩) ?_ ?_
  rotate_left
  · intro w'
    go_simp
    with_reducible rfl
  rotate_left
  · simp only [Act.put, List.setIfInBounds_toArray, List.set_cons_zero, List.set_cons_succ, i64_w, i32_w]
    rfl
  refine pure_ (i := 2) (N := some 36) (v := ?_) (a' := ?_) #[true, true, true, false, false, false, false, false, false, false, false, false, false, false, false, false, false, false, false, false, false, false] rfl rfl (by kernel_rfl) (fun _ _ _ h => h) (Or.inl ⟨by rfl, ?_⟩) ?_ ?_
  rotate_left
  · intro w'
    go_simp
    with_reducible rfl
  rotate_left
  · simp only [Act.put, List.setIfInBounds_toArray, List.set_cons_zero, List.set_cons_succ, i64_w, i32_w]
    rfl
  refine pure_ (i := 3) (N := some 37) (v := ?_) (a' := ?_) #[true, true, true, true, false, false, false, false, false, false, false, false, false, false, false, false, false, false, false, false, false, false] rfl rfl (by kernel_rfl) (fun _ _ _ h => h) (Or.inl ⟨by rfl, ?_⟩) ?_ ?_
  rotate_left
  · intro w'
    go_simp
    with_reducible rfl
  rotate_left
  · simp only [Act.put, List.setIfInBounds_toArray, List.set_cons_zero, List.set_cons_succ, i64_w, i32_w]
    rfl
  refine take_ (i := 4) (N := some 38) (v := ?_) (a' := ?_) #[true, true, true, true, true, false, false, false, false, false, false, false, false, false, false, false, false, false, false, false, false, false] rfl rfl (by kernel_rfl) (fun _ _ _ h => h) (Or.inl ⟨by rfl, ?_⟩) hHeld ?_ ?_
  rotate_left
  · rintro w' hS
    have y1 := hS.cell (p := ⟨gd, 1, none⟩) Hlt4.out.1
    rw [Hc1.out] at y1
    go_simp
    with_reducible rfl
  rotate_left
  · simp only [Act.put, List.setIfInBounds_toArray, List.set_cons_zero, List.set_cons_succ, i64_w, i32_w]
    rfl
  refine pure_ (i := 5) (N := some 39) (v := ?_) (a' := ?_) #[true, true, true, true, true, true, false, false, false, false, false, false, false, false, false, false, false, false, false, false, false, false] rfl rfl (by kernel_rfl) (fun _ _ _ h => h) (Or.inl ⟨by rfl, ?_⟩) ?_ ?_
  rotate_left
  · intro w'
    go_simp
    with_reducible rfl
  rotate_left
  · simp only [Act.put, List.setIfInBounds_toArray, List.set_cons_zero, List.set_cons_succ, i64_w, i32_w]
    rfl
  refine take_ (i := 6) (N := some 40) (v := ?_) (a' := ?_) #[true, true, true, true, true, true, true, false, false, false, false, false, false, false, false, false, false, false, false, false, false, false] rfl rfl (by kernel_rfl) (fun _ _ _ h => h) (Or.inl ⟨by rfl, ?_⟩) hHeld ?_ ?_
  rotate_left
  · rintro w' hS
    have y1 := hS.cell (p := ⟨w.heap.size, 0, none⟩) Hlt4.out.2.2.1
    rw [Hx0.out] at y1
    go_simp
    with_reducible rfl
  rotate_left
  · simp only [Act.put, List.setIfInBounds_toArray, List.set_cons_zero, List.set_cons_succ, i64_w, i32_w]
    rfl
  refine pure_ (i := 7) (N := some 41) (v := ?_) (a' := ?_) #[true, true, true, true, true, true, true, true, false, false, false, false, false, false, false, false, false, false, false, false, false, false] rfl rfl (by kernel_rfl) (fun _ _ _ h => h) (Or.inl ⟨by rfl, ?_⟩) ?_ ?_
  rotate_left
  · intro w'
    go_simp
    with_reducible rfl
  rotate_left
  · simp only [Act.put, List.setIfInBounds_toArray, List.set_cons_zero, List.set_cons_succ, i64_w, i32_w]
    rfl
  refine pure_ (i := 8) (N := some 42) (v := ?_) (a' := ?_) #[true, true, true, true, true, true, true, true, true, false, false, false, false, false, false, false, false, false, false, false, false, false] rfl rfl (by kernel_rfl) (fun _ _ _ h => h) (Or.inl ⟨by rfl, ?_⟩) ?_ ?_
  rotate_left
  · intro w'
    go_simp
    with_reducible rfl
  rotate_left
  · simp only [Act.put, List.setIfInBounds_toArray, List.set_cons_zero, List.set_cons_succ, i64_w, i32_w]
    rfl
  refine pure_ (i := 9) (N := some 43) (v := ?_) (a' := ?_) #[true, true, true, true, true, true, true, true, true, true, false, false, false, false, false, false, false, false, false, false, false, false] rfl rfl (by kernel_rfl) (fun _ _ _ h => h) (Or.inl ⟨by rfl, ?_⟩) ?_ ?_
  rotate_left
  · intro w'
    go_simp
    with_reducible rfl
  rotate_left
  · simp only [Act.put, List.setIfInBounds_toArray, List.set_cons_zero, List.set_cons_succ, i64_w, i32_w]
    rfl
  refine take_ (i := 10) (N := some 44) (v := ?_) (a' := ?_) #[true, true, true, true, true, true, true, true, true, true, true, false, false, false, false, false, false, false, false, false, false, false] rfl rfl (by kernel_rfl) (fun _ _ _ h => h) (Or.inl ⟨by rfl, ?_⟩) hHeld ?_ ?_
  rotate_left
  · rintro w' hS
    have y1 := hS.cell (p := ⟨gd, 0, none⟩) Hlt4.out.1
    rw [Hc0.out] at y1
    go_simp
    with_reducible rfl
  rotate_left
  · simp only [Act.put, List.setIfInBounds_toArray, List.set_cons_zero, List.set_cons_succ, i64_w, i32_w]
    rfl
  refine pure_ (i := 11) (N := some 45) (v := ?_) (a' := ?_) #[true, true, true, true, true, true, true, true, true, true, true, true, false, false, false, false, false, false, false, false, false, false] rfl rfl (by kernel_rfl) (fun _ _ _ h => h) (Or.inl ⟨by rfl, ?_⟩) ?_ ?_
  rotate_left
  · intro w'
    go_simp
    with_reducible rfl
  rotate_left
  · simp only [Act.put, List.setIfInBounds_toArray, List.set_cons_zero, List.set_cons_succ, i64_w, i32_w]
    rfl
  refine take_ (i := 12) (N := some 46) (v := ?_) (a' := ?_) #[true, true, true, true, true, true, true, true, true, true, true, true, true, false, false, false, false, false, false, false, false, false] rfl rfl (by kernel_rfl) (fun _ _ _ h => h) (Or.inl ⟨by rfl, ?_⟩) hHeld ?_ ?_
  rotate_left
  · rintro w' hS
    have y1 := hS.cell (p := ⟨w.heap.size, 0, none⟩) Hlt4.out.2.2.1
    rw [Hx0.out] at y1
    go_simp
    with_reducible rfl
  rotate_left
  · simp only [Act.put, List.setIfInBounds_toArray, List.set_cons_zero, List.set_cons_succ, i64_w, i32_w]
    rfl
  refine pure_ (i := 13) (N := some 47) (v := ?_) (a' := ?_) #[true, true, true, true, true, true, true, true, true, true, true, true, true, true, false, false, false, false, false, false, false, false] rfl rfl (by kernel_rfl) (fun _ _ _ h => h) (Or.inl ⟨by rfl, ?_⟩) ?_ ?_
  rotate_left
  · intro w'
    go_simp
    with_reducible rfl
  rotate_left
  · simp only [Act.put, List.setIfInBounds_toArray, List.set_cons_zero, List.set_cons_succ, i64_w, i32_w]
    rfl
  refine take_ (i := 14) (N := some 48) (v := .agg (secC old).toArray) (a' := ?_) #[true, true, true, true, true, true, true, true, true, true, true, true, true, true, true, false, false, false, false, false, false, false] rfl rfl (by kernel_rfl) (fun _ _ _ h => h) (yieldsIf_load_any (by rfl) 95 (.tmp 47) rfl ⟨gs, i * 65, none⟩ rfl (secC old) _ (fun w' hS j v hj => by rw [Addr.add_mid, hS.cell (p := ⟨gs, i * 65 + j, none⟩) Hlt4.out.2.1]; exact Hrng.out j v hj) Try.underlying95 rfl (by rw [sz_sec, secC_len65 Hol.out])) hHeld ?_ ?_
  rotate_left
  · simp only [Act.put, List.setIfInBounds_toArray, List.set_cons_zero, List.set_cons_succ, i64_w, i32_w]
    rfl
  refine take_ (i := 15) (N := some 49) (v := .agg (secC s).toArray) (a' := ?_) #[true, true, true, true, true, true, true, true, true, true, true, true, true, true, true, true, false, false, false, false, false, false] rfl rfl (by kernel_rfl) (fun _ _ _ h => h) (yieldsIf_load_any (by rfl) 95 (.tmp 6) rfl ⟨w2.heap.size, 0, none⟩ rfl (secC s) _ (fun w' hS j v hj => by rw [Addr.add_mid, hS.cell (p := ⟨w2.heap.size, 0 + j, none⟩) Hlt4.out.2.2.2, blk_cell Hz4.out, Nat.zero_add]; simpa using hj) Try.underlying95 rfl (by rw [sz_sec, secC_len65 Hsl.out])) hHeld ?_ ?_
  rotate_left
  · simp only [Act.put, List.setIfInBounds_toArray, List.set_cons_zero, List.set_cons_succ, i64_w, i32_w]
    rfl
  refine pure_ (i := 16) (N := some 50) (v := .agg (waitC (i, old, s)).toArray) (a' := ?_) #[true, true, true, true, true, true, true, true, true, true, true, true, true, true, true, true, true, false, false, false, false, false] rfl rfl (by kernel_rfl) (fun _ _ _ h => h) (yields_build (by rfl) 97 #[(0, .tmp 40), (1, .tmp 48), (2, .tmp 49)] rfl _ (waitC (i, old, s)).toArray (by simp only [List.map_toArray, List.map_cons, List.map_nil]; rfl) (wait_built i old s Hol.out Hsl.out)) ?_ ?_
  rotate_left
  · simp only [Act.put, List.setIfInBounds_toArray, List.set_cons_zero, List.set_cons_succ, i64_w, i32_w]
    rfl
  refine one_ (i := 17) (N := some 51) #[true, true, true, true, true, true, true, true, true, true, true, true, true, true, true, true, true, true, false, false, false, false] rfl rfl (by kernel_rfl) (by decide) (fun K hK => ?_)
  refine value_ (by rfl) rfl (run_exec_buildSlice1 rfl rfl (wait_one _ _ _ Hol.out Hsl.out _)) ?_
  refine hK.out _ _ (below_alloc hHeld _) (fun hHeld => ?_)
  clear hK K
  refine norm_ (a' := ?_) ?_ ?_
  rotate_left
  · show Act.put _ (some 51) _ = _
    simp only [Act.put, List.setIfInBounds_toArray, List.set_cons_zero, List.set_cons_succ, i64_w, i32_w]
    rfl
  refine last_ (i := 18) (N := some 52) #[true, true, true, true, true, true, true, true, true, true, true, true, true, true, true, true, true, true, true, false, false, false] rfl rfl (by kernel_rfl) (by decide) (fun K hK => ?_)
  obtain ⟨v1, w5, hap, hR5, hg5⟩ := (show Plain WK waitC from plain_flat 131 waitC _).append (w4.drew.alloc (.cells (waitC (i, old, s)).toArray 97)) B 90 90 97 _ 144 Try.underlying90 info_wait zero97 (by decide) vw D.tick.waits [(i, old, s)] (Kd.R_mono (Kd.R_below HR4.out (below_alloc (below_drew (Below.refl _ _)) _)) (fun _ _ => trivial)) (some ⟨w4.heap.size, 0, none⟩) 1 1 (by decide) (C_flat1 (blk_new w4.drew _) (by simp [waitC, secC_len65 Hol.out, secC_len65 Hsl.out])) (by have h1 : D.tick.waits.length ≤ 4096 := hwl; omega) (by have h1 : D.tick.waits.length ≤ 4096 := hwl; unfold maxLen; omega) (by have h1 := HB4.out.size; have h2 := HF2.out.size; have h3 := HB1.out.size; simp; omega)
  refine value_ (by rfl) rfl (run_exec_append rfl rfl rfl hap) ?_
  refine hK.out _ _ ?_
  clear hK K
  refine norm_ (a' := ?_) ?_ ?_
  rotate_left
  · show Act.put _ (some 52) _ = _
    simp only [Act.put, List.setIfInBounds_toArray, List.set_cons_zero, List.set_cons_succ, i64_w, i32_w]
    rfl
  refine pure_ (i := 19) (N := some 53) (v := ?_) (a' := ?_) #[true, true, true, true, true, true, true, true, true, true, true, true, true, true, true, true, true, true, true, true, false, false] rfl rfl (by kernel_rfl) (fun _ _ _ h => h) (Or.inl ⟨by rfl, ?_⟩) ?_ ?_
  rotate_left
  · intro w'
    go_simp
    with_reducible rfl
  rotate_left
  · simp only [Act.put, List.setIfInBounds_toArray, List.set_cons_zero, List.set_cons_succ, i64_w, i32_w]
    rfl
  refine pure_ (i := 20) (N := some 54) (v := ?_) (a' := ?_) #[true, true, true, true, true, true, true, true, true, true, true, true, true, true, true, true, true, true, true, true, true, false] rfl rfl (by kernel_rfl) (fun _ _ _ h => h) (Or.inl ⟨by rfl, ?_⟩) ?_ ?_
  rotate_left
  · intro w'
    go_simp
    with_reducible rfl
  rotate_left
  · simp only [Act.put, List.setIfInBounds_toArray, List.set_cons_zero, List.set_cons_succ, i64_w, i32_w]
    rfl
  refine last_ (i := 21) (N := none) #[true, true, true, true, true, true, true, true, true, true, true, true, true, true, true, true, true, true, true, true, true, true] rfl rfl (by kernel_rfl) (by decide) (fun K hK => ?_)
  have hgd5 : w5.heap[gd]? = some (.cells (discs gs 88 vw D.tick.dead D.tick.fuse done) 92 (0, 0)) := blk_grown (blk_below Hb4.out (below_alloc (below_drew (Below.refl _ _)) _)) hg5 (fun e => (R_ok HR4.out gd e.symm).1 rfl)
  have c1 := blk_cell hgd5 1
  replace c1 : w5.cell? ⟨gd, 1, none⟩ = some vw := c1
  have f1 := blk_frozen hgd5 1
  obtain ⟨A1, cap1, hv1, _⟩ := Kd.R_reads hR5
  subst hv1
  rw [if_pos (by rfl)]
  unfold Oper.wp
  go_simp
  refine hK.out _ _ ?_
  clear hK K
  refine done_ (by kernel_rfl) ?_
  obtain ⟨v1, hv1⟩ : ∃ v1, Value.slice A1 (D.tick.waits ++ [(i, old, s)]).length cap1 = v1 := ⟨_, rfl⟩
  have e1 : Value.slice A1 (D.tick.waits.length + 1) cap1 = v1 := by rw [← hv1]; simp
  rw [e1]
  rw [hv1] at hR5
  clear hap e1 hv1
  obtain ⟨w6, hw6⟩ : ∃ w6, w5.setCell ⟨gd, 1, none⟩ v1 = w6 := ⟨_, rfl⟩
  have hne := H4.out.ne
  have e0 : w6.heap[gd]? = some (.cells (discs gs 88 v1 D.tick.dead D.tick.fuse done) 92 (0, 0)) := by rw [← hw6]; exact blk_put hgd5 1 v1 rfl
  have hnw : ∀ {g t : Nat} {cells : Array Value}, w4.heap[g]? = some (.cells cells t (0, 0)) → 97 ≠ t → w5.heap[g]? = some (.cells cells t (0, 0)) := fun {g t cells} hb ht => by
    refine blk_grown (blk_below hb (below_alloc (below_drew (Below.refl _ _)) _)) hg5 ?_
    exact Kd.R_ne HR4.out hb ht
  have e1 : w6.heap[w.heap.size]? = some (.cells #[.int .i64 (i : Int), .slice (some ad) 64 c, .int .u16 0] 50 (0, 0)) := by
    rw [← hw6]; exact blk_far (hnw (blk_below Hbx2.out HB4.out) (by decide)) (fun e => hgl.1 e.symm) _
  have e3 : w6.heap[w2.heap.size]? = some (.cells (secC s).toArray 95 (0, 0)) := by
    rw [← hw6]; exact blk_far (hnw Hz4.out (by decide)) (fun e => by obtain ⟨_, _, hb, _⟩ := H2.out.hd; have := blk_lt hb; have e2 : w2.heap.size = gd := e; omega) _
  have e2 : w6.heap[gs]? = some (.cells (D.secs.flatMap secC).toArray 95 (0, 0)) := by
    rw [← hw6]; exact blk_far (hnw H4.out.hs (by decide)) (fun e => hne e.symm) _
  have hR6 : Kd.R WK 97 w6 B (fun _ => True) v1 (D.tick.waits ++ [(i, old, s)]) := by
    rw [← hw6]; exact Kd.R_set hR5 hgd5 (fun q hq => by simp [WK, flat] at hq; subst hq; decide) _ _
  have F6 : Fr (DS B gd gs) w w6 := by
    rw [← hw6]
    have f0 : Fr (DS B gd gs) w w1 := Fr.of_below HB1.out _
    have f1 : Fr (DS B gd gs) w w2 := f0.then_ HF2.out (fun k hk => .inl (.inl hk))
    have f2 : Fr (DS B gd gs) w w4 := f1.below HB4.out
    have f3 : Fr (DS B gd gs) w (w4.drew.alloc (Obj.cells (waitC (i, old, s)).toArray 97)) := f2.below (below_alloc (below_drew (Below.refl _ _)) _)
    have f4 : Fr (DS B gd gs) w w5 := f3.grown hg5 (fun k hk => .inl (.inr (.inr (R_base' HR4.out k hk))))
    exact f4.setCell (p := ⟨gd, 1, none⟩) (.inl (.inl rfl)) _
  rw [hw6]
  have He0 := Lib.hid (show w6.cell? ⟨gd, 0, none⟩ = some (.slice (some ⟨gs, 0, none⟩) 88 88) from blk_cell e0 0)
  have He1 := Lib.hid (show w6.cell? ⟨w.heap.size, 0, none⟩ = some (.int .i64 (i : Int)) from blk_cell e1 0)
  have Hlt6 := Lib.hid (show gd < w6.heap.size ∧ w.heap.size < w6.heap.size ∧ w2.heap.size < w6.heap.size from ⟨blk_lt e0, blk_lt e1, blk_lt e3⟩)
  have He2 := Lib.hid e2
  have He3 := Lib.hid e3
  have Hb6 := Lib.hid e0
  have HR6 := Lib.hid hR6
  have HF6 := Lib.hid F6
  have Hne := Lib.hid hne
  have Hfit := Lib.hid (show i * 65 + (secC s).length ≤ (D.secs.flatMap secC).length by
    rw [flat_len D.secs (fun s hs => secC_len65 (H4.out.len s hs)), secC_len65 Hsl.out, ← Nat.succ_mul]
    exact Nat.mul_le_mul_right _ Hil.out)
  clear hw6 e0 e1 e2 e3 hR6 F6 hne hnw hgd5 hg5 hR5 c1 f1
  go_wp2_with fail
  refine start_ (n := 9) (S := (fun W => Below w6.heap.size w6 W)) (ds := [8]) #[false, false, false, false, false, false, false, false, false] (by kernel_rfl) rfl rfl (below_drew (Below.refl _ _)) (fun hHeld => ?_)
  refine pure_ (i := 0) (N := some 55) (v := ?_) (a' := ?_) #[true, false, false, false, false, false, false, false, false] rfl rfl (by kernel_rfl) (fun _ _ _ h => h) (Or.inl ⟨by rfl, ?_⟩) ?_ ?_
  rotate_left
  · intro w'
    go_simp
    with_reducible rfl
  rotate_left
  · simp only [Act.put, List.setIfInBounds_toArray, List.set_cons_zero, List.set_cons_succ, i64_w, i32_w]
    rfl
  refine pure_ (i := 1) (N := some 56) (v := ?_) (a' := ?_) #[true, true, false, false, false, false, false, false, false] rfl rfl (by kernel_rfl) (fun _ _ _ h => h) (Or.inl ⟨by rfl, ?_⟩) ?_ ?_
  rotate_left
  · intro w'
    go_simp
    with_reducible rfl
  rotate_left
  · simp only [Act.put, List.setIfInBounds_toArray, List.set_cons_zero, List.set_cons_succ, i64_w, i32_w]
    rfl
  refine pure_ (i := 2) (N := some 57) (v := ?_) (a' := ?_) #[true, true, true, false, false, false, false, false, false] rfl rfl (by kernel_rfl) (fun _ _ _ h => h) (Or.inl ⟨by rfl, ?_⟩) ?_ ?_
  rotate_left
  · intro w'
    go_simp
    with_reducible rfl
  rotate_left
  · simp only [Act.put, List.setIfInBounds_toArray, List.set_cons_zero, List.set_cons_succ, i64_w, i32_w]
    rfl
  refine take_ (i := 3) (N := some 58) (v := ?_) (a' := ?_) #[true, true, true, true, false, false, false, false, false] rfl rfl (by kernel_rfl) (fun _ _ _ h => h) (Or.inl ⟨by rfl, ?_⟩) hHeld ?_ ?_
  rotate_left
  · rintro w' hS
    have y1 := hS.cell (p := ⟨gd, 0, none⟩) Hlt6.out.1
    rw [He0.out] at y1
    go_simp
    with_reducible rfl
  rotate_left
  · simp only [Act.put, List.setIfInBounds_toArray, List.set_cons_zero, List.set_cons_succ, i64_w, i32_w]
    rfl
  refine pure_ (i := 4) (N := some 59) (v := ?_) (a' := ?_) #[true, true, true, true, true, false, false, false, false] rfl rfl (by kernel_rfl) (fun _ _ _ h => h) (Or.inl ⟨by rfl, ?_⟩) ?_ ?_
  rotate_left
  · intro w'
    go_simp
    with_reducible rfl
  rotate_left
  · simp only [Act.put, List.setIfInBounds_toArray, List.set_cons_zero, List.set_cons_succ, i64_w, i32_w]
    rfl
  refine take_ (i := 5) (N := some 60) (v := ?_) (a' := ?_) #[true, true, true, true, true, true, false, false, false] rfl rfl (by kernel_rfl) (fun _ _ _ h => h) (Or.inl ⟨by rfl, ?_⟩) hHeld ?_ ?_
  rotate_left
  · rintro w' hS
    have y1 := hS.cell (p := ⟨w.heap.size, 0, none⟩) Hlt6.out.2.1
    rw [He1.out] at y1
    go_simp
    with_reducible rfl
  rotate_left
  · simp only [Act.put, List.setIfInBounds_toArray, List.set_cons_zero, List.set_cons_succ, i64_w, i32_w]
    rfl
  refine take_ (i := 6) (N := some 61) (v := .agg (secC s).toArray) (a' := ?_) #[true, true, true, true, true, true, true, false, false] rfl rfl (by kernel_rfl) (fun _ _ _ h => h) (yieldsIf_load_any (by rfl) 95 (.tmp 6) rfl ⟨w2.heap.size, 0, none⟩ rfl (secC s) _ (fun w' hS j v hj => by rw [Addr.add_mid, hS.cell (p := ⟨w2.heap.size, 0 + j, none⟩) Hlt6.out.2.2, blk_cell He3.out, Nat.zero_add]; simpa using hj) Try.underlying95 rfl (by rw [sz_sec, secC_len65 Hsl.out])) hHeld ?_ ?_
  rotate_left
  · simp only [Act.put, List.setIfInBounds_toArray, List.set_cons_zero, List.set_cons_succ, i64_w, i32_w]
    rfl
  refine pure_ (i := 7) (N := some 62) (v := ?_) (a' := ?_) #[true, true, true, true, true, true, true, true, false] rfl rfl (by kernel_rfl) (fun _ _ _ h => h) (Or.inl ⟨by rfl, ?_⟩) ?_ ?_
  rotate_left
  · intro w'
    go_simp
    with_reducible rfl
  rotate_left
  · simp only [Act.put, List.setIfInBounds_toArray, List.set_cons_zero, List.set_cons_succ, i64_w, i32_w]
    rfl
  refine last_ (i := 8) (N := none) #[true, true, true, true, true, true, true, true, true] rfl rfl (by kernel_rfl) (by decide) (fun K hK => ?_)
  refine skip_ (by rfl) rfl (run_exec_store rfl rfl rfl (store_mid (W := w6.drew) (g := gs) (o := i * 65) (cs := D.secs.flatMap secC) (vs := secC s) He2.out (by rw [sz_sec, secC_len65 Hsl.out]) Hfit.out (secC_one s))) ?_
  refine hK.out _ _ ?_
  clear hK K
  refine done_ (by kernel_rfl) ?_
  go_wp2_with fail
  go_ret
  have hlen : ∀ x ∈ D.secs, (secC x).length = 65 := fun x hx => secC_len65 (H4.out.len x hx)
  have F7 : Fr (DS B gd gs) w6 (w6.drew.setRow gs ((D.secs.flatMap secC).take (i * 65) ++ secC s ++ (D.secs.flatMap secC).drop (i * 65 + (secC s).length)).toArray) := ((Fr.refl _ _).drew).setRow (.inl (.inr (.inl rfl))) _
  have K7 : Kept w6 (w6.drew.setRow gs ((D.secs.flatMap secC).take (i * 65) ++ secC s ++ (D.secs.flatMap secC).drop (i * 65 + (secC s).length)).toArray) (· = gs) := ⟨by simp, fun k _ hk => setRow_other w6.drew gs k _ hk⟩
  refine ⟨rfl, ⟨⟨v1, done, blk_kept Hb6.out K7 Hne.out, ?_⟩, ?_, ?_, ?_, Hne.out, H4.out.lt, H4.out.fuse, fun e => absurd e (by simp [Dk.put])⟩, HF6.out.trans F7⟩
  · have hr := Kd.R_types (Kd.R_types HR6.out Hb6.out (fun q hq => by simp [WK, flat] at hq; subst hq; decide)) He2.out (fun q hq => by simp [WK, flat] at hq; subst hq; decide)
    have hr2 := Kd.R_mono (Kd.R_kept hr K7 (fun k hk => hk.2)) (ok' := fun k => k ≠ gd ∧ k ≠ gs) (fun k hk => ⟨hk.1.2, hk.2⟩)
    unfold Dk.put
    rw [show D.tick.secs = D.secs from rfl, Hold.out]
    exact hr2
  · have h := setRow_heap w6.drew gs _ ((D.secs.flatMap secC).take (i * 65) ++ secC s ++ (D.secs.flatMap secC).drop (i * 65 + (secC s).length)).toArray _ _ He2.out
    rw [secC_len65 Hsl.out, flat_set D.secs hlen i s Hil.out] at h
    rw [secC_len65 Hsl.out, flat_set D.secs hlen i s Hil.out]
    exact h
  · intro x hx
    rcases List.mem_or_eq_of_mem_set hx with hx | hx
    · exact H4.out.len x hx
    · rw [hx]; exact Hsl.out
  · show (D.secs.set i s).length = 88
    rw [List.length_set]; exact H4.out.num
end Go.Proofs.Ytpbijdalfeaheaa.Tf

/- disk: Write of a disk that is off; Crash. -/
namespace Go.Proofs.Ytpbijdalfeaheaa.Tf
open Go.RowKit Go.Proofs.YtpbijdalfeaheaaW.PrintWords Go.Proofs.YtpbijdalfeaheaaW.PrintLast Go.Proofs.YtpbijdalfeaheaaW.PrintMore
set_option linter.unusedVariables false
set_option linter.unusedSimpArgs false
set_option maxHeartbeats 8000000 in
set_option maxRecDepth 100000 in
theorem write_no (B gd gs : Nat) (D : Dk) (i c : Nat) (ad : Addr) (w : World) (h : DiskAt w B gd gs D) (hB : B ≤ w.heap.size) (hl : D.live = false) (hi : i < 88) :
    Calls Try.prog 45 #[.pointer (some ⟨gd, 0, none⟩), patchV i (some ad) 64 c] w fun e w' => e = .returned (.int .i64 6) ∧ DiskAt w' B gd gs D.off ∧ Fr (DS B gd gs) w w' := by
  have H := Lib.hid h
  clear h
  have q1 : (i : Int) < 88 := by omega
  have q0 : 0 ≤ (i : Int) := by omega
  unfold patchV
  go_enter Try.func45, Try.ntmps45
  go_wp2_with fail
  obtain ⟨w1, hw1⟩ : ∃ w1, w.alloc (Obj.cells #[.int .i64 (i : Int), .slice (some ad) 64 c, .int .u16 0] 50) = w1 := ⟨_, rfl⟩
  have hB1 : Below w.heap.size w w1 := by rw [← hw1]; exact below_alloc (Below.refl _ _) _
  have hbx : w1.heap[w.heap.size]? = some (.cells #[.int .i64 (i : Int), .slice (some ad) 64 c, .int .u16 0] 50 (0, 0)) := by rw [← hw1]; exact blk_new _ _
  rw [hw1]
  replace hw1 := Lib.hid hw1
  have H1 := Lib.hid (H.out.below hB1)
  have x1 := blk_cell hbx 1
  replace x1 : w1.cell? ⟨w.heap.size, 1, none⟩ = some (.slice (some ad) 64 c) := x1
  have HB1 := Lib.hid hB1
  clear hbx hB1
  refine (there_yes B gd gs _ i w1 H1.out q0 q1).mono ?_
  rintro e w' ⟨rfl, rfl⟩
  go_wp2_with fail
  refine (power_no B gd gs D w1 H1.out hl).mono ?_
  rintro e w2 ⟨rfl, h2, F2⟩
  have H2 := Lib.hid h2
  have HF2 := Lib.hid F2
  clear h2 F2
  go_wp2_with fail
  go_ret
  exact ⟨rfl, H2.out, (Fr.of_below HB1.out _).then_ HF2.out (fun k hk => .inl (.inl hk))⟩
/-- Whether a write is as a write is. -/
def Wok (x : Nat × List Int × List Int) : Prop := x.1 < 88 ∧ x.2.1.length = 64 ∧ x.2.2.length = 64
/-- What was there ahead of the writes is there again: the last first. -/
def undo (ws : List (Nat × List Int × List Int)) (S : List (List Int)) : List (List Int) := ws.reverse.foldl (fun S x => S.set x.1 x.2.1) S
/-- Which of the writes are there. -/
def redo (f : Nat → Bool) (ws : List (Nat × List Int × List Int)) (S : List (List Int)) : List (List Int) := (ws.zipIdx).foldl (fun S x => if f x.2 then S.set x.1.1 x.1.2.2 else S) S
theorem undo_take {ws : List (Nat × List Int × List Int)} {S : List (List Int)} {k : Nat} (hk : k < ws.length) : undo (ws.drop k) S = (undo (ws.drop (k + 1)) S).set ws[k].1 ws[k].2.1 := by
  unfold undo
  rw [List.drop_eq_getElem_cons hk, List.reverse_cons, List.foldl_append]; rfl
theorem redo_take {f : Nat → Bool} {ws : List (Nat × List Int × List Int)} {S : List (List Int)} {k : Nat} (hk : k < ws.length) : redo f (ws.take (k + 1)) S = if f k then (redo f (ws.take k) S).set ws[k].1 ws[k].2.2 else redo f (ws.take k) S := by
  unfold redo
  rw [List.take_succ_eq_append_getElem hk, List.zipIdx_append, List.foldl_append]
  have : (ws.take k).length = k := by rw [List.length_take, Nat.min_eq_left (by omega)]
  simp [this]
/-- Sectors, all of them 64 bytes. -/
def Sok (S : List (List Int)) : Prop := S.length = 88 ∧ ∀ s ∈ S, s.length = 64
theorem Sok.set {S : List (List Int)} (h : Sok S) (i : Nat) {s : List Int} (hs : s.length = 64) : Sok (S.set i s) := by
  refine ⟨by rw [List.length_set]; exact h.1, fun x hx => ?_⟩
  rcases List.mem_or_eq_of_mem_set hx with hx | hx
  · exact h.2 x hx
  · rw [hx]; exact hs
/-- The writes' row, as cells. -/
theorem waits_at {W : World} {g cap B : Nat} {ok : Nat → Prop} {ws : List (Nat × List Int × List Int)} {n : Nat} (h : Kd.R WK 97 W B ok (.slice (some ⟨g, 0, none⟩) n cap) ws) (k : Nat) (hk : k < ws.length) : W.rangeAt g (k * 131) (waitC ws[k]) := by
  obtain ⟨hn, _, hC⟩ := Kd.R_reads' h
  subst hn
  obtain ⟨ad, e, hc⟩ := hC.2.2 (by omega)
  injection e with e
  subst e
  obtain ⟨cs, _, hr, hcc⟩ := hc k _ (List.getElem?_eq_getElem hk)
  have hr2 : cs = waitC ws[k] := hr.1
  subst hr2
  intro j v hj
  have h2 := hcc j v hj
  have hs : WK.sz = 131 := rfl
  rw [hs, Addr.add_mid, Nat.zero_add] at h2
  exact h2
theorem R_some {α : Type} {d : Kd α} {e base : Nat} {W : World} {ok : Nat → Prop} {v : Value} {xs : List α} (h : d.R e W base ok v xs) (h0 : 0 < xs.length) : ∃ g cap, v = .slice (some ⟨g, 0, none⟩) xs.length cap := by
  obtain ⟨_, inner, ho, _⟩ := h
  rcases ho.2 with ⟨_, hn⟩ | ⟨g, cap, cur, e, _⟩
  · omega
  · exact ⟨g, cap, e⟩
theorem wait_zero (i : Nat) (a b : List Int) (W : World) (g o : Nat) (h : W.rangeAt g o (waitC (i, a, b))) : W.cell? ⟨g, o, none⟩ = some (.int .i64 (i : Int)) := by
  have := h 0 _ rfl
  rwa [Nat.add_zero] at this
theorem wait_was (i : Nat) (a b : List Int) (ha : a.length = 64) (W : World) (g o : Nat) (h : W.rangeAt g o (waitC (i, a, b))) : W.rangeAt g (o + 1) (secC a) := by
  intro j v hj
  have hjl : j < (secC a).length := (List.getElem?_eq_some_iff.1 hj).1
  have := h (j + 1) v (by show (secC a ++ secC b)[j]? = some v; rw [List.getElem?_append_left hjl]; exact hj)
  have e : o + 1 + j = o + (j + 1) := by omega
  rw [e]; exact this
theorem wait_now (i : Nat) (a b : List Int) (ha : a.length = 64) (W : World) (g o : Nat) (h : W.rangeAt g o (waitC (i, a, b))) : W.rangeAt g (o + 66) (secC b) := by
  intro j v hj
  have hl := secC_len65 ha
  have := h (65 + j + 1) v (by show (secC a ++ secC b)[65 + j]? = some v; rw [List.getElem?_append_right (by omega), hl, Nat.add_sub_cancel_left]; exact hj)
  have e : o + 66 + j = o + (65 + j + 1) := by omega
  rw [e]; exact this
/-- Which writes are there. -/
def fwalk (there : Int) (i : Nat) : Bool := bits .and .u64 (there / 2 ^ (i % 64)) 1 == 1
theorem wait_one' (x : Nat × List Int × List Int) : ∀ v ∈ (waitC x).toArray.toList, v.oneCell' = true := by
  intro u hu
  simp only at hu
  rcases List.mem_cons.1 hu with h | h
  · rw [h]; rfl
  · rcases List.mem_append.1 h with h | h <;> exact secC_one _ u h
theorem sz_wait : (Try.prog.info? 97).map (·.size) = some 131 := by kernel_rfl
theorem field_now (b : Nat) (W : World) : (Instr.fieldAt 97 (.pointer (some ⟨b, 0, none⟩)) 2).run Try.prog W = .ok (.pointer (some ⟨b, 66, none⟩)) W := by kernel_rfl
theorem yields_field {ops : Array Oper} {op : Oper} {a : Act} (hw : Region.wanted op (yielded ops a.tmps) = true) (s : TypeId) (x : Operand) (f : Nat) (ho : op.op = .fieldAddr s x f) (p v : Value) (hx : a.eval x = p) (hrun : ∀ W, (Instr.fieldAt s p f).run Try.prog W = .ok v W) : Yields Try.prog ops op v a :=
  .inl ⟨hw, fun w => by
    unfold execOp
    simp only [ho, hx, Sem.run_bind, hrun w, Sem.run_pure, Result.andThen_ok]⟩
set_option maxHeartbeats 8000000 in
set_option maxRecDepth 100000 in
theorem crash_any (B gd gs : Nat) (D : Dk) (there : Int) (w : World) (h : DiskAt w B gd gs D) (hB : B ≤ w.heap.size) (hw : ∀ x ∈ D.waits, Wok x) (hwl : D.waits.length ≤ 4096) :
    Calls Try.prog 12 #[.pointer (some ⟨gd, 0, none⟩), .int .u64 there] w fun e w' => e = .returned (.tuple #[]) ∧ ∃ f : Nat → Bool, DiskAt w' B gd gs { secs := redo f D.waits (undo D.waits D.secs), waits := [], dead := false, fuse := -1 } ∧ Fr (DS B gd gs) w w' := by
  obtain ⟨vw, done, hb, hR⟩ := h.hd
  obtain ⟨N, hN⟩ : ∃ N, D.waits.length = N := ⟨_, rfl⟩
  obtain ⟨A, cap, hv, hcap, hxx⟩ := Kd.R_reads hR
  clear hxx
  rw [hN] at hv hcap hwl
  subst hv
  have Hc0 := Lib.hid (show w.cell? ⟨gd, 0, none⟩ = some (.slice (some ⟨gs, 0, none⟩) 88 88) from blk_cell hb 0)
  have x1 : w.cell? ⟨gd, 1, none⟩ = some (.slice A N cap) := blk_cell hb 1
  have Hx1 := Lib.hid x1
  have Hb := Lib.hid hb
  have HR := Lib.hid hR
  have H := Lib.hid h
  have HW := Lib.hid hw
  have HN := Lib.hid hN
  clear hb hR h hw hN
  go_enter Try.func12, Try.ntmps12
  go_wp2_with fail
  clear x1
  go_loopg [4] (N + 1) (fun q i wr => ∃ k S, k + 1 = q ∧ i = .int .i64 ((k : Int) - 1) ∧ k ≤ N ∧ Hid (S = undo (D.waits.drop k) D.secs) ∧ Hid (Sok S) ∧ Hid (wr.heap[gs]? = some (.cells (S.flatMap secC).toArray 95 (0, 0))) ∧ Hid (Fr (fun x => x = gs) w wr))
  case atStart => exact ⟨N, D.secs, rfl, rfl, Nat.le_refl _, Lib.hid (by rw [← HN.out, List.drop_length]; rfl), Lib.hid ⟨H.out.num, H.out.len⟩, Lib.hid H.out.hs, Lib.hid (Fr.refl _ _)⟩
  case round =>
    obtain ⟨k, S, hq, rfl, hk, hS0, hSok, hgs, hF⟩ := hrel
    cases k with
    | zero =>
      have e1 : ((0 : Nat) : Int) - 1 = -1 := rfl
      rw [e1]
      clear e1
      have d1 : decide ((-1 : Int) ≥ 0) = false := rfl
      have hbr := hF.out.blk Hb.out (fun e => H.out.ne e)
      have c1 : wr.cell? ⟨gd, 1, none⟩ = some (.slice A N cap) := blk_cell hbr 1
      clear hbr
      go_wp2_with fail
      clear c1
      obtain ⟨w1, hw1⟩ : ∃ w1 : World, w1 = wr := ⟨_, rfl⟩
      subst hw1
      go_loopg [5, 6, 45] N (fun q _ _ i wr => ∃ k S2, k + q = N ∧ i = .int .i64 (k : Int) ∧ Hid (S2 = redo (fwalk there) (D.waits.take k) S) ∧ Hid (Sok S2) ∧ Hid (wr.heap[gs]? = some (.cells (S2.flatMap secC).toArray 95 (0, 0))) ∧ Hid (Fr (fun x => x = gs) w wr))
      case atStart => exact ⟨0, S, by omega, rfl, Lib.hid rfl, hSok, hgs, hF⟩
      case round =>
        clear hgs hF
        obtain ⟨k, S2, hq, rfl, hS2, hSok2, hgs, hF⟩ := hrel
        cases gk with
        | zero =>
          obtain rfl : k = N := by omega
          have d1 : decide ((k : Int) < (k : Int)) = false := decide_eq_false (by omega)
          have hbr := hF.out.blk Hb.out (fun e => H.out.ne e)
          have c1 : wr.cell? ⟨gd, 1, none⟩ = some (.slice A k cap) := blk_cell hbr 1
          have c2 : wr.cell? ⟨gd, 2, none⟩ = some (.bool D.dead) := blk_cell hbr 2
          have c3 : wr.cell? ⟨gd, 3, none⟩ = some (.int .i64 D.fuse) := blk_cell hbr 3
          have f1 := blk_frozen hbr 1
          have f2 := blk_frozen hbr 2
          have f3 := blk_frozen hbr 3
          have Hbr := Lib.hid hbr
          clear hbr
          go_wp2_with fail
          go_end0
          have b3 := blk_put (blk_put (blk_put Hbr.out 1 (.slice none 0 0) (cs' := discs gs 88 (.slice none 0 0) D.dead D.fuse done) rfl) 2 (.bool false) (cs' := discs gs 88 (.slice none 0 0) false D.fuse done) rfl) 3 (.int .i64 (-1)) (cs' := discs gs 88 (.slice none 0 0) false (-1) done) rfl
          have F : Fr (fun x => x = gd) wr (((wr.setCell ⟨gd, 1, none⟩ (.slice none 0 0)).setCell ⟨gd, 2, none⟩ (.bool false)).setCell ⟨gd, 3, none⟩ (.int .i64 (-1))) := (((Fr.refl _ _).put1 _ _).put1 _ _).put1 _ _
          have hS2' : S2 = redo (fwalk there) D.waits (undo D.waits D.secs) := by
            rw [hS2.out, hS0.out, List.take_of_length_le (by rw [HN.out]; exact Nat.le_refl _)]; rfl
          refine ⟨rfl, fwalk there, ⟨⟨_, _, b3, Kd.R_nil _ _ _ _ _⟩, ?_, ?_, ?_, H.out.ne, H.out.lt, by simp, fun _ => blk_cell b3 1⟩, (hF.out.mono (fun k hk => .inr (.inl hk))).then_ F (fun k hk => .inl (.inl hk))⟩
          · rw [← hS2']; exact F.blk hgs.out (fun e => H.out.ne e.symm)
          · rw [← hS2']; exact hSok2.out.2
          · rw [← hS2']; exact hSok2.out.1
        | succ q =>
          have d1 : decide ((k : Int) < (N : Int)) = true := decide_eq_true (by omega)
          have q0 : 0 ≤ (k : Int) := by omega
          have q1 : (k : Int) < (N : Int) := by omega
          have hkl : k < D.waits.length := by rw [HN.out]; omega
          obtain ⟨x, hx⟩ : ∃ x, D.waits[k] = x := ⟨_, rfl⟩
          have hxok := HW.out x (by rw [← hx]; exact List.getElem_mem hkl)
          obtain ⟨gw, cap', hv⟩ := R_some HR.out (by omega)
          injection hv with hvA hvB hvC
          clear hvB hvC
          subst hvA
          have hRr := Kd.R_kept HR.out hF.out.kept (fun k hk => hk.2)
          have hrg := waits_at hRr k hkl
          rw [hx] at hrg
          have hrt := redo_take (f := fwalk there) (S := S) hkl
          rw [← hS2.out, hx] at hrt
          have hxl : (waitC x).length = 131 := by
            obtain ⟨at_, was, now⟩ := x
            obtain ⟨ha1, ha2, ha3⟩ := hxok
            simp [waitC, secC_len65 ha2, secC_len65 ha3]
          have Hrg := Lib.hid hrg
          have Hxl := Lib.hid hxl
          have Hrt := Lib.hid hrt
          have Hxok := Lib.hid hxok
          have hload := Lib.hid (run_loadAt_mid (P := Try.prog) wr gw (k * 131) 97 (waitC x) _ hrg Try.underlying97 rfl (by rw [sz_wait, hxl]))
          clear hrg hxl hrt hxok hRr hx hkl
          go_wp2_with (first | ((with_reducible refine gate_load 97 (.tmp 48) rfl ?_); refine wpList_load_eq rfl _ _ rfl _ _ rfl hload.out ?_) | ((with_reducible refine gate_store 97 (.tmp 6) (.tmp 49) rfl ?_); refine wpList_store_eq rfl _ _ _ rfl _ _ rfl rfl (store_row (blk_new _ _) (by rw [sz_wait]; simp [Hxl.out]) (by rw [zero97]; simp [Hxl.out]) (wait_one' x)) ?_))
          all_goals
            obtain ⟨w2, hw2⟩ : ∃ w2, (wr.alloc (Obj.cells Try.zeroCells97 97)).setRow wr.heap.size (waitC x).toArray = w2 := ⟨_, rfl⟩
            have hB2 : Below wr.heap.size wr w2 := by rw [← hw2]; exact below_setRow (below_alloc (Below.refl _ _) _) (Nat.le_refl _) _
            have hz2 : w2.heap[wr.heap.size]? = some (.cells (waitC x).toArray 97 (0, 0)) := by rw [← hw2]; exact setRow_heap _ _ _ _ _ _ (blk_new _ _)
            rw [hw2]
            clear hw2 hload
            have HB2 := Lib.hid hB2
            have Hz2 := Lib.hid hz2
            clear hB2 hz2
          · have hf : fwalk there k = true := by assumption
            have Hf := Lib.hid hf
            clear hf
            obtain ⟨at_, was, now⟩ := x
            have hbr := blk_below (hF.out.blk Hb.out (fun e => H.out.ne e)) HB2.out
            have Hc0 := Lib.hid (show w2.cell? ⟨gd, 0, none⟩ = some (.slice (some ⟨gs, 0, none⟩) 88 88) from blk_cell hbr 0)
            have hrg2 : w2.rangeAt wr.heap.size 0 (waitC (at_, was, now)) := by
              have h := blk_range Hz2.out 0 131
              rw [List.drop_zero, List.take_of_length_le (by rw [Hxl.out]; exact Nat.le_refl _)] at h
              exact h
            have Hat := Lib.hid (wait_zero _ _ _ _ _ _ hrg2)
            have Hnow := Lib.hid (wait_now _ _ _ Hxok.out.2.1 _ _ _ hrg2)
            rw [Nat.zero_add] at Hnow
            have Hnl := Lib.hid Hxok.out.2.2
            have p1 : (at_ : Int) < 88 := by have := Hxok.out.1; simp only at this; omega
            have p0 : 0 ≤ (at_ : Int) := by omega
            have Hlt := Lib.hid (show gd < w2.heap.size ∧ wr.heap.size < w2.heap.size from ⟨blk_lt hbr, blk_lt Hz2.out⟩)
            have Hgs := Lib.hid (blk_below hgs.out HB2.out)
            have Hfit := Lib.hid (show at_ * 65 + (secC now).length ≤ (S2.flatMap secC).length by
              rw [flat_len S2 (fun s hs => secC_len65 (hSok2.out.2 s hs)), secC_len65 Hxok.out.2.2, ← Nat.succ_mul, hSok2.out.1]
              exact Nat.mul_le_mul_right _ Hxok.out.1)
            have Hset := Lib.hid (flat_set S2 (fun s hs => secC_len65 (hSok2.out.2 s hs)) at_ now (by rw [hSok2.out.1]; exact Hxok.out.1))
            clear hbr hrg2
            refine start_ (n := 10) (S := (fun W => Below w2.heap.size w2 W)) (ds := [9]) #[false, false, false, false, false, false, false, false, false, false] (by kernel_rfl) rfl rfl (below_drew (Below.refl _ _)) (fun hHeld => ?_)
            refine pure_ (i := 0) (N := some 56) (v := ?_) (a' := ?_) #[true, false, false, false, false, false, false, false, false, false] rfl rfl (by kernel_rfl) (fun _ _ _ h => h) (Or.inl ⟨by rfl, ?_⟩) ?_ ?_
            rotate_left
            · intro w'
              go_simp
              with_reducible rfl
            rotate_left
            · simp only [Act.put, List.setIfInBounds_toArray, List.set_cons_zero, List.set_cons_succ, i64_w, i32_w]
              rfl
            refine pure_ (i := 1) (N := some 57) (v := ?_) (a' := ?_) #[true, true, false, false, false, false, false, false, false, false] rfl rfl (by kernel_rfl) (fun _ _ _ h => h) (Or.inl ⟨by rfl, ?_⟩) ?_ ?_
            rotate_left
            · intro w'
              go_simp
              with_reducible rfl
            rotate_left
            · simp only [Act.put, List.setIfInBounds_toArray, List.set_cons_zero, List.set_cons_succ, i64_w, i32_w]
              rfl
            refine pure_ (i := 2) (N := some 58) (v := ?_) (a' := ?_) #[true, true, true, false, false, false, false, false, false, false] rfl rfl (by kernel_rfl) (fun _ _ _ h => h) (Or.inl ⟨by rfl, ?_⟩) ?_ ?_
            rotate_left
            · intro w'
              go_simp
              with_reducible rfl
            rotate_left
            · simp only [Act.put, List.setIfInBounds_toArray, List.set_cons_zero, List.set_cons_succ, i64_w, i32_w]
              rfl
            refine take_ (i := 3) (N := some 59) (v := ?_) (a' := ?_) #[true, true, true, true, false, false, false, false, false, false] rfl rfl (by kernel_rfl) (fun _ _ _ h => h) (Or.inl ⟨by rfl, ?_⟩) hHeld ?_ ?_
            rotate_left
            · rintro w' hS
              have y1 := hS.cell (p := ⟨gd, 0, none⟩) Hlt.out.1
              rw [Hc0.out] at y1
              go_simp
              with_reducible rfl
            rotate_left
            · simp only [Act.put, List.setIfInBounds_toArray, List.set_cons_zero, List.set_cons_succ, i64_w, i32_w]
              rfl
            refine pure_ (i := 4) (N := some 60) (v := ?_) (a' := ?_) #[true, true, true, true, true, false, false, false, false, false] rfl rfl (by kernel_rfl) (fun _ _ _ h => h) (Or.inl ⟨by rfl, ?_⟩) ?_ ?_
            rotate_left
            · intro w'
              go_simp
              with_reducible rfl
            rotate_left
            · simp only [Act.put, List.setIfInBounds_toArray, List.set_cons_zero, List.set_cons_succ, i64_w, i32_w]
              rfl
            refine take_ (i := 5) (N := some 61) (v := ?_) (a' := ?_) #[true, true, true, true, true, true, false, false, false, false] rfl rfl (by kernel_rfl) (fun _ _ _ h => h) (Or.inl ⟨by rfl, ?_⟩) hHeld ?_ ?_
            rotate_left
            · rintro w' hS
              have y1 := hS.cell (p := ⟨wr.heap.size, 0, none⟩) Hlt.out.2
              rw [Hat.out] at y1
              go_simp
              with_reducible rfl
            rotate_left
            · simp only [Act.put, List.setIfInBounds_toArray, List.set_cons_zero, List.set_cons_succ, i64_w, i32_w]
              rfl
            refine pure_ (i := 6) (N := some 62) (v := .pointer (some ⟨wr.heap.size, 66, none⟩)) (a' := ?_) #[true, true, true, true, true, true, true, false, false, false] rfl rfl (by kernel_rfl) (fun _ _ _ h => h) (yields_field (by rfl) 97 (.tmp 6) 2 rfl _ _ rfl (field_now wr.heap.size)) ?_ ?_
            rotate_left
            · simp only [Act.put, List.setIfInBounds_toArray, List.set_cons_zero, List.set_cons_succ, i64_w, i32_w]
              rfl
            refine take_ (i := 7) (N := some 63) (v := .agg (secC now).toArray) (a' := ?_) #[true, true, true, true, true, true, true, true, false, false] rfl rfl (by kernel_rfl) (fun _ _ _ h => h) (yieldsIf_load_any (by rfl) 95 (.tmp 62) rfl ⟨wr.heap.size, 66, none⟩ rfl (secC now) _ (fun w' hS j v hj => by rw [Addr.add_mid, hS.cell (p := ⟨wr.heap.size, 66 + j, none⟩) Hlt.out.2]; exact Hnow.out j v hj) Try.underlying95 rfl (by rw [sz_sec, secC_len65 Hnl.out])) hHeld ?_ ?_
            rotate_left
            · simp only [Act.put, List.setIfInBounds_toArray, List.set_cons_zero, List.set_cons_succ, i64_w, i32_w]
              rfl
            refine pure_ (i := 8) (N := some 64) (v := ?_) (a' := ?_) #[true, true, true, true, true, true, true, true, true, false] rfl rfl (by kernel_rfl) (fun _ _ _ h => h) (Or.inl ⟨by rfl, ?_⟩) ?_ ?_
            rotate_left
            · intro w'
              go_simp
              with_reducible rfl
            rotate_left
            · simp only [Act.put, List.setIfInBounds_toArray, List.set_cons_zero, List.set_cons_succ, i64_w, i32_w]
              rfl
            refine last_ (i := 9) (N := none) #[true, true, true, true, true, true, true, true, true, true] rfl rfl (by kernel_rfl) (by decide) (fun K hK => ?_)
            refine skip_ (by rfl) rfl (run_exec_store rfl rfl rfl (store_mid (W := w2.drew) (g := gs) (o := at_ * 65) (cs := S2.flatMap secC) (vs := secC now) Hgs.out (by rw [sz_sec, secC_len65 Hnl.out]) Hfit.out (secC_one now))) ?_
            refine hK.out _ _ ?_
            clear hK K
            refine done_ (by kernel_rfl) ?_
            go_wp2_with fail
            go_roundg q
            case measure => omega
            case rel =>
              refine ⟨k + 1, S2.set at_ now, by omega, by go_num, Lib.hid (by rw [Hrt.out, if_pos Hf.out]), Lib.hid (hSok2.out.set at_ Hnl.out), Lib.hid ?_, Lib.hid ((hF.out.below HB2.out).drew.setRow (.inl rfl) _)⟩
              have h := setRow_heap w2.drew gs _ ((S2.flatMap secC).take (at_ * 65) ++ (secC now ++ (S2.flatMap secC).drop (at_ * 65 + (secC now).length))).toArray _ _ Hgs.out
              have e := Hset.out
              rw [List.append_assoc] at e
              rw [secC_len65 Hnl.out] at h ⊢
              rw [e] at h ⊢
              exact h
          · have hf : fwalk there k = false := by assumption
            go_roundg q
            case measure => omega
            case rel =>
              exact ⟨k + 1, S2, by omega, by go_num, Lib.hid (by rw [Hrt.out, if_neg (by rw [hf]; simp)]), hSok2, Lib.hid (blk_below hgs.out HB2.out), Lib.hid (hF.out.below HB2.out)⟩
    | succ k =>
      have e1 : ((k + 1 : Nat) : Int) - 1 = (k : Int) := by omega
      rw [e1]
      clear e1
      have d1 : decide ((k : Int) ≥ 0) = true := decide_eq_true (by omega)
      have q0 : 0 ≤ (k : Int) := by omega
      have q1 : (k : Int) < (N : Int) := by omega
      have hkl : k < D.waits.length := by rw [HN.out]; omega
      obtain ⟨x, hx⟩ : ∃ x, D.waits[k] = x := ⟨_, rfl⟩
      have hxok := HW.out x (by rw [← hx]; exact List.getElem_mem hkl)
      obtain ⟨gw, cap', hv⟩ := R_some HR.out (by omega)
      injection hv with hvA hvB hvC
      clear hvB hvC
      subst hvA
      have hRr := Kd.R_kept HR.out hF.out.kept (fun k hk => hk.2)
      have hrg := waits_at hRr k hkl
      rw [hx] at hrg
      have hust := undo_take (S := D.secs) hkl
      rw [← hS0.out, hx] at hust
      obtain ⟨at_, was, now⟩ := x
      obtain ⟨ha1, ha2, ha3⟩ := hxok
      simp only at ha1 ha2 ha3 hust
      have p1 : (at_ : Int) < 88 := by omega
      have p0 : 0 ≤ (at_ : Int) := by omega
      have Hwl := Lib.hid ha2
      have Hat := Lib.hid (wait_zero _ _ _ _ _ _ hrg)
      have Hwas := Lib.hid (wait_was _ _ _ ha2 _ _ _ hrg)
      have hbr := hF.out.blk Hb.out (fun e => H.out.ne e)
      have Hc0 := Lib.hid (show wr.cell? ⟨gd, 0, none⟩ = some (.slice (some ⟨gs, 0, none⟩) 88 88) from blk_cell hbr 0)
      have Hc1 := Lib.hid (show wr.cell? ⟨gd, 1, none⟩ = some (.slice (some ⟨gw, 0, none⟩) N cap) from blk_cell hbr 1)
      have Hlt := Lib.hid (show gd < wr.heap.size ∧ gw < wr.heap.size from ⟨blk_lt hbr, World.block_lt_of_cell? wr _ Hat.out⟩)
      have Hgs := Lib.hid hgs.out
      have Hfit := Lib.hid (show at_ * 65 + (secC was).length ≤ (S.flatMap secC).length by
        rw [flat_len S (fun s hs => secC_len65 (hSok.out.2 s hs)), secC_len65 ha2, ← Nat.succ_mul, hSok.out.1]
        exact Nat.mul_le_mul_right _ ha1)
      have Hset := Lib.hid (flat_set S (fun s hs => secC_len65 (hSok.out.2 s hs)) at_ was (by rw [hSok.out.1]; exact ha1))
      have Hust := Lib.hid hust
      clear hrg hRr hbr hust ha1 ha2 ha3 hx hkl
      go_wp2_with fail
      refine start_ (n := 22) (S := (fun W => Below wr.heap.size wr W)) (ds := [21]) #[false, false, false, false, false, false, false, false, false, false, false, false, false, false, false, false, false, false, false, false, false, false] (by kernel_rfl) rfl rfl (below_drew (Below.refl _ _)) (fun hHeld => ?_)
      refine pure_ (i := 0) (N := some 19) (v := ?_) (a' := ?_) #[true, false, false, false, false, false, false, false, false, false, false, false, false, false, false, false, false, false, false, false, false, false] rfl rfl (by kernel_rfl) (fun _ _ _ h => h) (Or.inl ⟨by rfl, ?_⟩) ?_ ?_
      rotate_left
      · intro w'
        go_simp
        with_reducible rfl
      rotate_left
      · simp only [Act.put, List.setIfInBounds_toArray, List.set_cons_zero, List.set_cons_succ, i64_w, i32_w]
        rfl
      refine pure_ (i := 1) (N := some 20) (v := ?_) (a' := ?_) #[true, true, false, false, false, false, false, false, false, false, false, false, false, false, false, false, false, false, false, false, false, false] rfl rfl (by kernel_rfl) (fun _ _ _ h => h) (Or.inl ⟨by rfl, ?_⟩) ?_ ?_
      rotate_left
      · intro w'
        go_simp
        with_reducible rfl
      rotate_left
      · simp only [Act.put, List.setIfInBounds_toArray, List.set_cons_zero, List.set_cons_succ, i64_w, i32_w]
        rfl
      refine pure_ (i := 2) (N := some 21) (v := ?_) (a' := ?_) #[true, true, true, false, false, false, false, false, false, false, false, false, false, false, false, false, false, false, false, false, false, false] rfl rfl (by kernel_rfl) (fun _ _ _ h => h) (Or.inl ⟨by rfl, ?_⟩) ?_ ?_
      rotate_left
      · intro w'
        go_simp
        with_reducible rfl
      rotate_left
      · simp only [Act.put, List.setIfInBounds_toArray, List.set_cons_zero, List.set_cons_succ, i64_w, i32_w]
        rfl
      refine take_ (i := 3) (N := some 22) (v := ?_) (a' := ?_) #[true, true, true, true, false, false, false, false, false, false, false, false, false, false, false, false, false, false, false, false, false, false] rfl rfl (by kernel_rfl) (fun _ _ _ h => h) (Or.inl ⟨by rfl, ?_⟩) hHeld ?_ ?_
      rotate_left
      · rintro w' hS
        have y1 := hS.cell (p := ⟨gd, 0, none⟩) Hlt.out.1
        rw [Hc0.out] at y1
        go_simp
        with_reducible rfl
      rotate_left
      · simp only [Act.put, List.setIfInBounds_toArray, List.set_cons_zero, List.set_cons_succ, i64_w, i32_w]
        rfl
      refine pure_ (i := 4) (N := some 23) (v := ?_) (a' := ?_) #[true, true, true, true, true, false, false, false, false, false, false, false, false, false, false, false, false, false, false, false, false, false] rfl rfl (by kernel_rfl) (fun _ _ _ h => h) (Or.inl ⟨by rfl, ?_⟩) ?_ ?_
      rotate_left
      · intro w'
        go_simp
        with_reducible rfl
      rotate_left
      · simp only [Act.put, List.setIfInBounds_toArray, List.set_cons_zero, List.set_cons_succ, i64_w, i32_w]
        rfl
      refine pure_ (i := 5) (N := some 24) (v := ?_) (a' := ?_) #[true, true, true, true, true, true, false, false, false, false, false, false, false, false, false, false, false, false, false, false, false, false] rfl rfl (by kernel_rfl) (fun _ _ _ h => h) (Or.inl ⟨by rfl, ?_⟩) ?_ ?_
      rotate_left
      · intro w'
        go_simp
        with_reducible rfl
      rotate_left
      · simp only [Act.put, List.setIfInBounds_toArray, List.set_cons_zero, List.set_cons_succ, i64_w, i32_w]
        rfl
      refine pure_ (i := 6) (N := some 25) (v := ?_) (a' := ?_) #[true, true, true, true, true, true, true, false, false, false, false, false, false, false, false, false, false, false, false, false, false, false] rfl rfl (by kernel_rfl) (fun _ _ _ h => h) (Or.inl ⟨by rfl, ?_⟩) ?_ ?_
      rotate_left
      · intro w'
        go_simp
        with_reducible rfl
      rotate_left
      · simp only [Act.put, List.setIfInBounds_toArray, List.set_cons_zero, List.set_cons_succ, i64_w, i32_w]
        rfl
      refine take_ (i := 7) (N := some 26) (v := ?_) (a' := ?_) #[true, true, true, true, true, true, true, true, false, false, false, false, false, false, false, false, false, false, false, false, false, false] rfl rfl (by kernel_rfl) (fun _ _ _ h => h) (Or.inl ⟨by rfl, ?_⟩) hHeld ?_ ?_
      rotate_left
      · rintro w' hS
        have y1 := hS.cell (p := ⟨gd, 1, none⟩) Hlt.out.1
        rw [Hc1.out] at y1
        go_simp
        with_reducible rfl
      rotate_left
      · simp only [Act.put, List.setIfInBounds_toArray, List.set_cons_zero, List.set_cons_succ, i64_w, i32_w]
        rfl
      refine pure_ (i := 8) (N := some 27) (v := ?_) (a' := ?_) #[true, true, true, true, true, true, true, true, true, false, false, false, false, false, false, false, false, false, false, false, false, false] rfl rfl (by kernel_rfl) (fun _ _ _ h => h) (Or.inl ⟨by rfl, ?_⟩) ?_ ?_
      rotate_left
      · intro w'
        go_simp
        with_reducible rfl
      rotate_left
      · simp only [Act.put, List.setIfInBounds_toArray, List.set_cons_zero, List.set_cons_succ, i64_w, i32_w]
        rfl
      refine pure_ (i := 9) (N := some 28) (v := ?_) (a' := ?_) #[true, true, true, true, true, true, true, true, true, true, false, false, false, false, false, false, false, false, false, false, false, false] rfl rfl (by kernel_rfl) (fun _ _ _ h => h) (Or.inl ⟨by rfl, ?_⟩) ?_ ?_
      rotate_left
      · intro w'
        go_simp
        with_reducible rfl
      rotate_left
      · simp only [Act.put, List.setIfInBounds_toArray, List.set_cons_zero, List.set_cons_succ, i64_w, i32_w]
        rfl
      refine pure_ (i := 10) (N := some 29) (v := ?_) (a' := ?_) #[true, true, true, true, true, true, true, true, true, true, true, false, false, false, false, false, false, false, false, false, false, false] rfl rfl (by kernel_rfl) (fun _ _ _ h => h) (Or.inl ⟨by rfl, ?_⟩) ?_ ?_
      rotate_left
      · intro w'
        go_simp
        with_reducible rfl
      rotate_left
      · simp only [Act.put, List.setIfInBounds_toArray, List.set_cons_zero, List.set_cons_succ, i64_w, i32_w]
        rfl
      refine take_ (i := 11) (N := some 30) (v := ?_) (a' := ?_) #[true, true, true, true, true, true, true, true, true, true, true, true, false, false, false, false, false, false, false, false, false, false] rfl rfl (by kernel_rfl) (fun _ _ _ h => h) (Or.inl ⟨by rfl, ?_⟩) hHeld ?_ ?_
      rotate_left
      · rintro w' hS
        have y1 := hS.cell (p := ⟨gw, k * 131, none⟩) Hlt.out.2
        rw [Hat.out] at y1
        go_simp
        with_reducible rfl
      rotate_left
      · simp only [Act.put, List.setIfInBounds_toArray, List.set_cons_zero, List.set_cons_succ, i64_w, i32_w]
        rfl
      refine pure_ (i := 12) (N := some 31) (v := ?_) (a' := ?_) #[true, true, true, true, true, true, true, true, true, true, true, true, true, false, false, false, false, false, false, false, false, false] rfl rfl (by kernel_rfl) (fun _ _ _ h => h) (Or.inl ⟨by rfl, ?_⟩) ?_ ?_
      rotate_left
      · intro w'
        go_simp
        with_reducible rfl
      rotate_left
      · simp only [Act.put, List.setIfInBounds_toArray, List.set_cons_zero, List.set_cons_succ, i64_w, i32_w]
        rfl
      refine pure_ (i := 13) (N := some 32) (v := ?_) (a' := ?_) #[true, true, true, true, true, true, true, true, true, true, true, true, true, true, false, false, false, false, false, false, false, false] rfl rfl (by kernel_rfl) (fun _ _ _ h => h) (Or.inl ⟨by rfl, ?_⟩) ?_ ?_
      rotate_left
      · intro w'
        go_simp
        with_reducible rfl
      rotate_left
      · simp only [Act.put, List.setIfInBounds_toArray, List.set_cons_zero, List.set_cons_succ, i64_w, i32_w]
        rfl
      refine pure_ (i := 14) (N := some 33) (v := ?_) (a' := ?_) #[true, true, true, true, true, true, true, true, true, true, true, true, true, true, true, false, false, false, false, false, false, false] rfl rfl (by kernel_rfl) (fun _ _ _ h => h) (Or.inl ⟨by rfl, ?_⟩) ?_ ?_
      rotate_left
      · intro w'
        go_simp
        with_reducible rfl
      rotate_left
      · simp only [Act.put, List.setIfInBounds_toArray, List.set_cons_zero, List.set_cons_succ, i64_w, i32_w]
        rfl
      refine take_ (i := 15) (N := some 34) (v := ?_) (a' := ?_) #[true, true, true, true, true, true, true, true, true, true, true, true, true, true, true, true, false, false, false, false, false, false] rfl rfl (by kernel_rfl) (fun _ _ _ h => h) (Or.inl ⟨by rfl, ?_⟩) hHeld ?_ ?_
      rotate_left
      · rintro w' hS
        have y1 := hS.cell (p := ⟨gd, 1, none⟩) Hlt.out.1
        rw [Hc1.out] at y1
        go_simp
        with_reducible rfl
      rotate_left
      · simp only [Act.put, List.setIfInBounds_toArray, List.set_cons_zero, List.set_cons_succ, i64_w, i32_w]
        rfl
      refine pure_ (i := 16) (N := some 35) (v := ?_) (a' := ?_) #[true, true, true, true, true, true, true, true, true, true, true, true, true, true, true, true, true, false, false, false, false, false] rfl rfl (by kernel_rfl) (fun _ _ _ h => h) (Or.inl ⟨by rfl, ?_⟩) ?_ ?_
      rotate_left
      · intro w'
        go_simp
        with_reducible rfl
      rotate_left
      · simp only [Act.put, List.setIfInBounds_toArray, List.set_cons_zero, List.set_cons_succ, i64_w, i32_w]
        rfl
      refine pure_ (i := 17) (N := some 36) (v := ?_) (a' := ?_) #[true, true, true, true, true, true, true, true, true, true, true, true, true, true, true, true, true, true, false, false, false, false] rfl rfl (by kernel_rfl) (fun _ _ _ h => h) (Or.inl ⟨by rfl, ?_⟩) ?_ ?_
      rotate_left
      · intro w'
        go_simp
        with_reducible rfl
      rotate_left
      · simp only [Act.put, List.setIfInBounds_toArray, List.set_cons_zero, List.set_cons_succ, i64_w, i32_w]
        rfl
      refine pure_ (i := 18) (N := some 37) (v := ?_) (a' := ?_) #[true, true, true, true, true, true, true, true, true, true, true, true, true, true, true, true, true, true, true, false, false, false] rfl rfl (by kernel_rfl) (fun _ _ _ h => h) (Or.inl ⟨by rfl, ?_⟩) ?_ ?_
      rotate_left
      · intro w'
        go_simp
        with_reducible rfl
      rotate_left
      · simp only [Act.put, List.setIfInBounds_toArray, List.set_cons_zero, List.set_cons_succ, i64_w, i32_w]
        rfl
      refine take_ (i := 19) (N := some 38) (v := .agg (secC was).toArray) (a' := ?_) #[true, true, true, true, true, true, true, true, true, true, true, true, true, true, true, true, true, true, true, true, false, false] rfl rfl (by kernel_rfl) (fun _ _ _ h => h) (yieldsIf_load_any (by rfl) 95 (.tmp 37) rfl ⟨gw, k * 131 + 1, none⟩ rfl (secC was) _ (fun w' hS j v hj => by rw [Addr.add_mid, hS.cell (p := ⟨gw, k * 131 + 1 + j, none⟩) Hlt.out.2]; exact Hwas.out j v hj) Try.underlying95 rfl (by rw [sz_sec, secC_len65 Hwl.out])) hHeld ?_ ?_
      rotate_left
      · simp only [Act.put, List.setIfInBounds_toArray, List.set_cons_zero, List.set_cons_succ, i64_w, i32_w]
        rfl
      refine pure_ (i := 20) (N := some 39) (v := ?_) (a' := ?_) #[true, true, true, true, true, true, true, true, true, true, true, true, true, true, true, true, true, true, true, true, true, false] rfl rfl (by kernel_rfl) (fun _ _ _ h => h) (Or.inl ⟨by rfl, ?_⟩) ?_ ?_
      rotate_left
      · intro w'
        go_simp
        with_reducible rfl
      rotate_left
      · simp only [Act.put, List.setIfInBounds_toArray, List.set_cons_zero, List.set_cons_succ, i64_w, i32_w]
        rfl
      refine last_ (i := 21) (N := none) #[true, true, true, true, true, true, true, true, true, true, true, true, true, true, true, true, true, true, true, true, true, true] rfl rfl (by kernel_rfl) (by decide) (fun K hK => ?_)
      refine skip_ (by rfl) rfl (run_exec_store rfl rfl rfl (store_mid (W := wr.drew) (g := gs) (o := at_ * 65) (cs := S.flatMap secC) (vs := secC was) Hgs.out (by rw [sz_sec, secC_len65 Hwl.out]) Hfit.out (secC_one was))) ?_
      refine hK.out _ _ ?_
      clear hK K
      refine done_ (by kernel_rfl) ?_
      go_wp2_with fail
      subst hq
      go_roundg (k + 1)
      case measure => omega
      case rel =>
        refine ⟨k, S.set at_ was, rfl, rfl, by omega, Lib.hid Hust.out.symm, Lib.hid (hSok.out.set at_ Hwl.out), Lib.hid ?_, Lib.hid (hF.out.drew.setRow (.inl rfl) _)⟩
        have h := setRow_heap wr.drew gs _ ((S.flatMap secC).take (at_ * 65) ++ (secC was ++ (S.flatMap secC).drop (at_ * 65 + (secC was).length))).toArray _ _ Hgs.out
        have e := Hset.out
        rw [List.append_assoc] at e
        rw [secC_len65 Hwl.out] at h ⊢
        rw [e] at h ⊢
        exact h
end Go.Proofs.Ytpbijdalfeaheaa.Tf
