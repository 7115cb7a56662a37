/- path.Parse: what it answers, as a plain function of the text's bytes, and that the call answers so. Every text. -/
import Derived.Test.YtljddpnnfdaplaaRtB
import Derived.Test.YtljddpnnfdaplaaWMore
import Derived.ScopeJumps
import Derived.WalkMore
namespace Go.Proofs.Ytljddpnnfdaplaa.Pa
open Go.RowKit Go.Proofs.Ytljddpnnfdaplaa.Rt Go.Proofs.YtljddpnnfdaplaaW.PrintWords Go.Proofs.YtljddpnnfdaplaaW.PrintLast Go.Proofs.YtljddpnnfdaplaaW.PrintMore
set_option linter.unusedVariables false
set_option linter.unusedSimpArgs false

/-! A scope through which the run goes by jumps to several labels. -/
/-- As Q; by a goto: J of the label. -/
def jumps (J : Nat → Act → World → Prop) (Q : Exit → Act → World → Prop) : Exit → Act → World → Prop
  | .goto l, a, w => J l a w
  | e, a, w => Q e a w
section
variable {P : Program} {a : Act} {w : World} {Q : Exit → Act → World → Prop}
theorem jumps_goto (J : Nat → Act → World → Prop) (l : Nat) : jumps J Q (.goto l) a w = J l a w := rfl
theorem jumps_ret (J : Nat → Act → World → Prop) : jumps J Q .ret a w = Q .ret a w := rfl
theorem jumps_normal (J : Nat → Act → World → Prop) : jumps J Q .normal a w = Q .normal a w := rfl
theorem jumps_exit (J : Nat → Act → World → Prop) (i : Nat) : jumps J Q (.exit i) a w = Q (.exit i) a w := rfl
theorem jumps_imp {J J' : Nat → Act → World → Prop} (h : ∀ l a w, J l a w → J' l a w) : ∀ (e : Exit) (a : Act) (w : World), jumps J Q e a w → jumps J' Q e a w := by
  intro e a w hq
  cases e <;> first | exact hq | exact h _ _ _ hq

theorem wp_scope_many {c : Code} (rest : Nat → Option Code) (J : Nat → Act → World → Prop) (μ : Nat → Act → World → Nat) (hf : ∀ l r, rest l = some r → findLabel c l = some r) (hJ : ∀ l a w, J l a w → (rest l).isSome = true)
    (first : c.wp P (jumps J Q) a w)
    (pass : ∀ l r a w, rest l = some r → J l a w → r.wp P (jumps (fun l' a' w' => J l' a' w' ∧ μ l' a' w' < μ l a w) Q) a w) : (Code.scope c).wp P Q a w := by
  intro b k cs
  have hg : ∀ l r, rest l = some r → gotoIn l (.inScope c :: k) = some (.code r :: .inScope c :: k) := fun l r h => by simp [gotoIn, hf l r h]
  have key : ∀ n l r a w, rest l = some r → μ l a w = n → J l a w → ∃ e a' w', Q e a' w' ∧ Arrives P (lone (b.at a (.code r :: .inScope c :: k)) cs w) b k cs e a' w' := by
    intro n
    induction n using Nat.strongRecOn with
    | _ n ih =>
      intro l r a w hr hn hj
      obtain ⟨e, a₁, w₁, hq, harr⟩ := pass l r a w hr hj b (.inScope c :: k) cs
      cases e with
      | normal => exact ⟨.normal, a₁, w₁, hq, Steps.trans harr (.one step_inScope)⟩
      | exit id => exact ⟨.exit id, a₁, w₁, hq, fun k' hk => harr k' (by simp [exitTo, hk])⟩
      | goto l' =>
        obtain ⟨hj', hlt⟩ : J l' a₁ w₁ ∧ μ l' a₁ w₁ < μ l a w := hq
        obtain ⟨r', hr'⟩ := Option.isSome_iff_exists.1 (hJ l' a₁ w₁ hj')
        obtain ⟨e₂, a₂, w₂, hq₂, harr₂⟩ := ih _ (by omega) l' r' a₁ w₁ hr' rfl hj'
        exact ⟨e₂, a₂, w₂, hq₂, .of_steps (harr _ (hg l' r' hr')) harr₂⟩
      | ret => exact ⟨_, a₁, w₁, hq, harr⟩
      | panic ch => exact ⟨_, a₁, w₁, hq, harr⟩
      | outgrown => exact ⟨_, a₁, w₁, hq, harr⟩
  obtain ⟨e, a₁, w₁, hq, harr⟩ := first b (.inScope c :: k) cs
  cases e with
  | normal => exact ⟨.normal, a₁, w₁, hq, .head step_scope (Steps.trans harr (.one step_inScope))⟩
  | exit id => exact ⟨.exit id, a₁, w₁, hq, fun k' hk => .head step_scope (harr k' (by simp [exitTo, hk]))⟩
  | goto l' =>
    have hj' : J l' a₁ w₁ := hq
    obtain ⟨r', hr'⟩ := Option.isSome_iff_exists.1 (hJ l' a₁ w₁ hj')
    obtain ⟨e₂, a₂, w₂, hq₂, harr₂⟩ := key _ l' r' a₁ w₁ hr' rfl hj'
    exact ⟨e₂, a₂, w₂, hq₂, .of_steps (.head step_scope (harr _ (hg l' r' hr'))) harr₂⟩
  | ret => exact ⟨_, a₁, w₁, hq, .of_steps (.one step_scope) harr⟩
  | panic ch => exact ⟨_, a₁, w₁, hq, .of_steps (.one step_scope) harr⟩
  | outgrown => exact ⟨_, a₁, w₁, hq, .of_steps (.one step_scope) harr⟩
end

/-! The plain function. -/
def ba (l : List UInt8) : ByteArray := ⟨l.toArray⟩
/-- What is left of the text, behind the bytes cur of the n-th name. -/
def scan : List UInt8 → List UInt8 → Nat → Option (List ByteArray)
  | [], cur, _ => if rightB cur then some [ba cur] else none
  | c :: r, cur, n => if c = 47 then (if rightB cur then (if n = 16 then none else (scan r [] (n + 1)).map (ba cur :: ·)) else none) else scan r (cur ++ [c]) n
/-- What is left of the text, behind n names. -/
def nameO : List UInt8 → Nat → Option (List ByteArray)
  | [], _ => none
  | c :: r, n => if c = 47 then (if n = 16 then none else scan r [] (n + 1)) else none
def parseO (l : List UInt8) : Option (List ByteArray) := if l = [47] then some [] else nameO l 0
def ans : Option (List ByteArray) → List ByteArray × Int
  | some l => (l, 0)
  | none => ([], 130)

theorem drop_cons (s : ByteArray) (k : Nat) (h : k < s.size) : s.data.toList.drop k = (s[k]'h) :: s.data.toList.drop (k + 1) := by
  rw [List.drop_eq_getElem_cons (by simpa using h)]; rfl
theorem extract_ba (s : ByteArray) (a b : Nat) : s.extract a b = ba ((s.data.toList.drop a).take (b - a)) := by
  unfold ba
  apply ByteArray.ext
  rw [ByteArray.data_extract]
  apply Array.ext'
  simp [Array.toList_extract, List.extract_eq_take_drop]
theorem take_grow (s : ByteArray) (f k : Nat) (hf : f ≤ k) (h : k < s.size) : (s.data.toList.drop f).take (k + 1 - f) = (s.data.toList.drop f).take (k - f) ++ [s[k]'h] := by
  rw [show k + 1 - f = (k - f) + 1 by omega, List.take_succ_eq_append_getElem (by simp; omega)]
  congr 2
  rw [List.getElem_drop]
  simp only [show f + (k - f) = k by omega]
  rfl

/-- The text from at on is one of which the names behind out are R's. -/
def At2 (s : ByteArray) (R : Option (List ByteArray)) (at_ : Nat) (out : List ByteArray) : Prop := at_ ≤ s.size ∧ out.length ≤ 16 ∧ (nameO (s.data.toList.drop at_) out.length).map (out ++ ·) = R
def At3 (s : ByteArray) (R : Option (List ByteArray)) (at_ fr : Nat) (out : List ByteArray) : Prop := fr ≤ at_ ∧ at_ ≤ s.size ∧ out.length ≤ 15 ∧ (scan (s.data.toList.drop at_) ((s.data.toList.drop fr).take (at_ - fr)) (out.length + 1)).map (out ++ ·) = R
section
variable {s : ByteArray} {R : Option (List ByteArray)} {at_ fr : Nat} {out : List ByteArray}
theorem At2.fin (h : At2 s R at_ out) (e : at_ = s.size) : R = none := by
  rw [← h.2.2, e, List.drop_of_length_le (by simp)]; rfl
theorem At2.other (h : At2 s R at_ out) (hk : at_ < s.size) (hc : s[at_]'hk ≠ 47) : R = none := by
  rw [← h.2.2, drop_cons s at_ hk]; simp [nameO, hc]
theorem At2.full (h : At2 s R at_ out) (hk : at_ < s.size) (e : out.length = 16) : R = none := by
  rw [← h.2.2, drop_cons s at_ hk, e]; simp [nameO]
theorem At2.go (h : At2 s R at_ out) (hk : at_ < s.size) (hc : s[at_]'hk = 47) (hn : out.length ≠ 16) : At3 s R (at_ + 1) (at_ + 1) out := by
  refine ⟨Nat.le_refl _, hk, by have := h.2.1; omega, ?_⟩
  rw [← h.2.2, drop_cons s at_ hk, Nat.sub_self, List.take_zero]
  simp [nameO, hc, hn]
theorem At3.more (h : At3 s R at_ fr out) (hk : at_ < s.size) (hc : s[at_]'hk ≠ 47) : At3 s R (at_ + 1) fr out := by
  refine ⟨by have := h.1; omega, hk, by have := h.2.2.1; omega, ?_⟩
  rw [take_grow s fr at_ h.1 hk, ← h.2.2.2, drop_cons s at_ hk]
  conv => rhs; unfold scan
  rw [if_neg hc]
theorem At3.wrong (h : At3 s R at_ fr out) (he : at_ = s.size ∨ ∃ hk : at_ < s.size, s[at_]'hk = 47) (hr : rightB ((s.data.toList.drop fr).take (at_ - fr)) = false) : R = none := by
  rw [← h.2.2.2]
  rcases he with e | ⟨hk, hc⟩
  · rw [show s.data.toList.drop at_ = [] from List.drop_of_length_le (by simp; omega)]; unfold scan; simp [hr]
  · rw [drop_cons s at_ hk, hc]; unfold scan; simp [hr]
theorem At3.last (h : At3 s R at_ fr out) (e : at_ = s.size) (hr : rightB ((s.data.toList.drop fr).take (at_ - fr)) = true) : R = some (out ++ [s.extract fr at_]) := by
  rw [← h.2.2.2, show s.data.toList.drop at_ = [] from List.drop_of_length_le (by simp; omega), extract_ba]; unfold scan; simp [hr]
theorem At3.next (h : At3 s R at_ fr out) (hk : at_ < s.size) (hc : s[at_]'hk = 47) (hr : rightB ((s.data.toList.drop fr).take (at_ - fr)) = true) : At2 s R at_ (out ++ [s.extract fr at_]) := by
  refine ⟨Nat.le_of_lt hk, by have := h.2.2.1; simp; omega, ?_⟩
  rw [← h.2.2.2, drop_cons s at_ hk, extract_ba, List.length_append, List.length_singleton]
  unfold scan nameO
  simp only [hc, if_true, hr]
  split
  · rfl
  · rw [Option.map_map]
    congr 1
    funext x
    simp
end

/-- What holds at each label: at 'name' (2), at 'more' (3), at 'done' (0), at 'wrong' (1). -/
def J (s : ByteArray) (w0 : World) (R : Option (List ByteArray)) (l : Nat) (a : Act) (w : World) : Prop :=
  ∃ (at_ fr : Nat) (out : List ByteArray) (v : Value) (u7 u8 u9 u10 u11 u12 u13 u14 u15 u16 u17 u18 u19 u20 u21 u22 u23 u24 u25 u26 u27 u28 u29 u30 u31 u32 u33 u34 u35 u36 u37 u38 u39 u40 u41 u42 u43 u44 u45 u46 u47 u48 u49 u50 u51 u52 u53 u54 u55 u56 : Value), a = { tmps := List.toArray (Value.string s :: undef :: Value.slice none 0 0 :: Value.int .i64 0 :: v :: Value.int .i64 (at_ : Int) :: Value.int .i64 (fr : Int) :: u7 :: u8 :: u9 :: u10 :: u11 :: u12 :: u13 :: u14 :: u15 :: u16 :: u17 :: u18 :: u19 :: u20 :: u21 :: u22 :: u23 :: u24 :: u25 :: u26 :: u27 :: u28 :: u29 :: u30 :: u31 :: u32 :: u33 :: u34 :: u35 :: u36 :: u37 :: u38 :: u39 :: u40 :: u41 :: u42 :: u43 :: u44 :: u45 :: u46 :: u47 :: u48 :: u49 :: u50 :: u51 :: u52 :: u53 :: u54 :: u55 :: u56 :: []), defers := [] } ∧
    (l = 2 ∧ At2 s R at_ out ∨ l = 3 ∧ At3 s R at_ fr out ∨ l = 0 ∧ R = some out ∨ l = 1 ∧ R = none) ∧ Kd.R Kd.string 9 w w0.heap.size (fun _ => True) v out ∧ Below w0.heap.size w0 w
/-- What a pass lowers. -/
def μ (s : ByteArray) (l : Nat) (a : Act) (_ : World) : Nat := if l = 2 then 2 * (s.size - (intOf (a.tmps.getD 5 undef)).toNat) + 1 else if l = 3 then 2 * (s.size - (intOf (a.tmps.getD 5 undef)).toNat) + 2 else 0

theorem info_string : (Try.prog.info? 9).map (fun i => (i.zero, i.size, i.bytes)) = some (some (.string ⟨#[]⟩), 1, 16) := by kernel_rfl

theorem J.lt {s : ByteArray} {w0 : World} {R : Option (List ByteArray)} {l : Nat} {a : Act} {w : World} (h : J s w0 R l a w) : l < 4 := by
  obtain ⟨at_, fr, out, v, u7, u8, u9, u10, u11, u12, u13, u14, u15, u16, u17, u18, u19, u20, u21, u22, u23, u24, u25, u26, u27, u28, u29, u30, u31, u32, u33, u34, u35, u36, u37, u38, u39, u40, u41, u42, u43, u44, u45, u46, u47, u48, u49, u50, u51, u52, u53, u54, u55, u56, -, h, -⟩ := h
  omega
theorem J.mk {s : ByteArray} {w0 : World} {R : Option (List ByteArray)} {l : Nat} {w : World} {at_ fr : Nat} {out : List ByteArray} {v u7 u8 u9 u10 u11 u12 u13 u14 u15 u16 u17 u18 u19 u20 u21 u22 u23 u24 u25 u26 u27 u28 u29 u30 u31 u32 u33 u34 u35 u36 u37 u38 u39 u40 u41 u42 u43 u44 u45 u46 u47 u48 u49 u50 u51 u52 u53 u54 u55 u56 : Value} (hl : l = 2 ∧ At2 s R at_ out ∨ l = 3 ∧ At3 s R at_ fr out ∨ l = 0 ∧ R = some out ∨ l = 1 ∧ R = none) (hO : Hid (Kd.R Kd.string 9 w w0.heap.size (fun _ => True) v out)) (hB : Hid (Below w0.heap.size w0 w)) : J s w0 R l { tmps := List.toArray (Value.string s :: undef :: Value.slice none 0 0 :: Value.int .i64 0 :: v :: Value.int .i64 (at_ : Int) :: Value.int .i64 (fr : Int) :: u7 :: u8 :: u9 :: u10 :: u11 :: u12 :: u13 :: u14 :: u15 :: u16 :: u17 :: u18 :: u19 :: u20 :: u21 :: u22 :: u23 :: u24 :: u25 :: u26 :: u27 :: u28 :: u29 :: u30 :: u31 :: u32 :: u33 :: u34 :: u35 :: u36 :: u37 :: u38 :: u39 :: u40 :: u41 :: u42 :: u43 :: u44 :: u45 :: u46 :: u47 :: u48 :: u49 :: u50 :: u51 :: u52 :: u53 :: u54 :: u55 :: u56 :: []), defers := [] } w :=
  ⟨at_, fr, out, v, u7, u8, u9, u10, u11, u12, u13, u14, u15, u16, u17, u18, u19, u20, u21, u22, u23, u24, u25, u26, u27, u28, u29, u30, u31, u32, u33, u34, u35, u36, u37, u38, u39, u40, u41, u42, u43, u44, u45, u46, u47, u48, u49, u50, u51, u52, u53, u54, u55, u56, rfl, hl, hO.out, hB.out⟩
theorem mu_at {s : ByteArray} {l : Nat} {w : World} {at_ fr : Nat} {v u7 u8 u9 u10 u11 u12 u13 u14 u15 u16 u17 u18 u19 u20 u21 u22 u23 u24 u25 u26 u27 u28 u29 u30 u31 u32 u33 u34 u35 u36 u37 u38 u39 u40 u41 u42 u43 u44 u45 u46 u47 u48 u49 u50 u51 u52 u53 u54 u55 u56 : Value} : μ s l { tmps := List.toArray (Value.string s :: undef :: Value.slice none 0 0 :: Value.int .i64 0 :: v :: Value.int .i64 (at_ : Int) :: Value.int .i64 (fr : Int) :: u7 :: u8 :: u9 :: u10 :: u11 :: u12 :: u13 :: u14 :: u15 :: u16 :: u17 :: u18 :: u19 :: u20 :: u21 :: u22 :: u23 :: u24 :: u25 :: u26 :: u27 :: u28 :: u29 :: u30 :: u31 :: u32 :: u33 :: u34 :: u35 :: u36 :: u37 :: u38 :: u39 :: u40 :: u41 :: u42 :: u43 :: u44 :: u45 :: u46 :: u47 :: u48 :: u49 :: u50 :: u51 :: u52 :: u53 :: u54 :: u55 :: u56 :: []), defers := [] } w = if l = 2 then 2 * (s.size - at_) + 1 else if l = 3 then 2 * (s.size - at_) + 2 else 0 := rfl

theorem wp_scope_path {P : Program} {c X0 X1 X2 X3 : Code} {a : Act} {w : World} {Q : Exit → Act → World → Prop} (J : Nat → Act → World → Prop) (μ : Nat → Act → World → Nat)
    (h0 : findLabel c 0 = some (.seq .skip X0)) (h1 : findLabel c 1 = some (.seq .skip X1)) (h2 : findLabel c 2 = some (.seq .skip X2)) (h3 : findLabel c 3 = some (.seq .skip X3)) (hJ : ∀ l a w, J l a w → l < 4)
    (p0 : ∀ J' a w, J 0 a w → X0.wp P (jumps J' Q) a w)
    (p1 : ∀ J' a w, J 1 a w → X1.wp P (jumps J' Q) a w)
    (p3 : ∀ a w, J 3 a w → X3.wp P (jumps (fun l' a' w' => J l' a' w' ∧ μ l' a' w' < μ 3 a w) Q) a w)
    (p2 : (∀ a w, J 3 a w → X3.wp P (jumps (fun l' a' w' => J l' a' w' ∧ μ l' a' w' < μ 3 a w) Q) a w) → ∀ a w, J 2 a w → X2.wp P (jumps (fun l' a' w' => J l' a' w' ∧ μ l' a' w' < μ 2 a w) Q) a w)
    (first : (∀ a w, J 2 a w → X2.wp P (jumps J Q) a w) → c.wp P (jumps J Q) a w) : (Code.scope c).wp P Q a w := by
  refine wp_scope_many (fun l => if l < 4 then findLabel c l else none) J μ (fun l r h => by split at h <;> first | exact h | cases h) ?_ (first fun a w h => wp_mono (p2 p3 a w h) (jumps_imp fun _ _ _ h => h.1)) ?_
  · intro l a w h
    have := hJ l a w h
    clear h
    match l, this with
    | 0, _ => simp [h0]
    | 1, _ => simp [h1]
    | 2, _ => simp [h2]
    | 3, _ => simp [h3]
  · intro l r a w hr h
    have := hJ l a w h
    match l, this with
    | 0, _ => simp [h0] at hr; subst hr; exact wp_seq (wp_skip (p0 _ a w h))
    | 1, _ => simp [h1] at hr; subst hr; exact wp_seq (wp_skip (p1 _ a w h))
    | 2, _ => simp [h2] at hr; subst hr; exact wp_seq (wp_skip (p2 p3 a w h))
    | 3, _ => simp [h3] at hr; subst hr; exact wp_seq (wp_skip (p3 a w h))

theorem ba_toList (l : List UInt8) : (ba l).data.toList = l := rfl
theorem right_cut {s : ByteArray} {fr at_ : Nat} {b : Bool} (hr : rightB ((s.data.toList.drop fr).take (at_ - fr)) = b) (w : World) :
    Calls Try.prog 21 #[.string (s.extract fr at_)] w fun e w' => e = .returned (.bool b) ∧ Below w.heap.size w w' := by
  have h := right_any (s.extract fr at_) w
  rw [extract_ba, ba_toList, hr, ← extract_ba] at h
  exact h

attribute [go_sem] jumps_ret jumps_normal jumps_exit
theorem byte_neq {s : ByteArray} {k : Nat} (h : k < s.size) (e : s[k]'h ≠ 47) : (((s[k]'h).toNat : Int) != 47) = true := by
  rw [bne_iff_ne]
  intro e2
  exact e (UInt8.toNat_inj.1 (show (s[k]'h).toNat = 47 by omega))
theorem byte_eq {s : ByteArray} {k : Nat} (h : k < s.size) (e : s[k]'h = 47) : (((s[k]'h).toNat : Int) != 47) = false := by
  rw [e]; rfl

set_option maxHeartbeats 8000000 in
set_option maxRecDepth 100000 in
theorem parse_any (s : ByteArray) (hs : s.size ≤ 140737488351232) (hne : s.toList ≠ [47]) (w : World) :
    Calls Try.prog 9 #[.string s] w fun e w' => ∃ v0_ : Value, e = .returned (.tuple #[v0_, .int .i64 (ans (nameO s.data.toList 0)).2]) ∧ Kd.R Kd.string 9 w' w.heap.size (fun _ => True) v0_ (ans (nameO s.data.toList 0)).1 ∧ Below w.heap.size w w' := by
  have hne' : (s.toList == [47]) = false := beq_eq_false_iff_ne.2 hne
  obtain ⟨R, hR⟩ : ∃ R, R = nameO s.data.toList 0 := ⟨_, rfl⟩
  rw [← hR]
  have hA2 : Hid (At2 s R 0 []) := Lib.hid ⟨Nat.zero_le _, by simp, by rw [hR, List.drop_zero]; simp⟩
  clear hR hne
  go_enter Try.func9, Try.ntmps9
  go_wp2_with fail
  refine wp_scope_path (J s w R) (μ s) rfl rfl rfl rfl (fun _ _ _ h => h.lt) ?_ ?_ ?_ ?_ ?_
  · rintro J' a w1 ⟨at_, fr, out, v, u7, u8, u9, u10, u11, u12, u13, u14, u15, u16, u17, u18, u19, u20, u21, u22, u23, u24, u25, u26, u27, u28, u29, u30, u31, u32, u33, u34, u35, u36, u37, u38, u39, u40, u41, u42, u43, u44, u45, u46, u47, u48, u49, u50, u51, u52, u53, u54, u55, u56, rfl, hl, hO, hB⟩
    obtain rfl : R = some out := by simpa using hl
    replace hO := Lib.hid hO
    replace hB := Lib.hid hB
    clear hl
    go_wp2_with fail
    rw [jumps_ret]
    go_ret2
    exact ⟨v, rfl, hO.out, hB.out⟩
  · rintro J' a w1 ⟨at_, fr, out, v, u7, u8, u9, u10, u11, u12, u13, u14, u15, u16, u17, u18, u19, u20, u21, u22, u23, u24, u25, u26, u27, u28, u29, u30, u31, u32, u33, u34, u35, u36, u37, u38, u39, u40, u41, u42, u43, u44, u45, u46, u47, u48, u49, u50, u51, u52, u53, u54, u55, u56, rfl, hl, hO, hB⟩
    obtain rfl : R = none := by simpa using hl
    replace hO := Lib.hid hO
    replace hB := Lib.hid hB
    clear hl
    go_wp2_with fail
    rw [jumps_ret]
    go_ret2
    exact ⟨_, rfl, Kd.R_nil Kd.string _ _ _ _, hB.out⟩
  · rintro a w1 ⟨at_, fr, out, v, u7, u8, u9, u10, u11, u12, u13, u14, u15, u16, u17, u18, u19, u20, u21, u22, u23, u24, u25, u26, u27, u28, u29, u30, u31, u32, u33, u34, u35, u36, u37, u38, u39, u40, u41, u42, u43, u44, u45, u46, u47, u48, u49, u50, u51, u52, u53, u54, u55, u56, rfl, hl, hO, hB⟩
    have hA : Hid (At3 s R at_ fr out) := Lib.hid (by simpa using hl)
    replace hO := Lib.hid hO
    replace hB := Lib.hid hB
    have b1 : 0 ≤ (at_ : Int) := Int.natCast_nonneg _
    have b3 : fr ≤ at_ := hA.out.1
    have b4 : at_ ≤ s.size := hA.out.2.1
    have b5 : out.length ≤ 15 := hA.out.2.2.1
    have b6 : 0 ≤ (fr : Int) := Int.natCast_nonneg _
    have b7 : (fr : Int) ≤ (at_ : Int) := by omega
    have b8 : (at_ : Int) ≤ (s.size : Int) := by omega
    clear hl
    rw [mu_at]
    by_cases hk : at_ < s.size
    · have c1' : decide ((at_ : Int) < (s.size : Int)) = true := decide_eq_true (by omega)
      have b2 : (at_ : Int) < (s.size : Int) := by omega
      by_cases c2 : s[at_]'hk = 47
      · have c2' := byte_eq hk c2
        have he : Hid (at_ = s.size ∨ ∃ hk : at_ < s.size, s[at_]'hk = 47) := Lib.hid (Or.inr ⟨hk, c2⟩)
        cases hr : rightB ((s.data.toList.drop fr).take (at_ - fr)) with
        | false =>
          have hW := hA.out.wrong he.out hr
          go_wp2_with fail
          refine (right_cut hr _).mono ?_
          rintro e w2 ⟨rfl, hb⟩
          replace hO := Lib.hid (Kd.R_below hO.out hb)
          replace hB := Lib.hid (below_step hB.out hb)
          clear hb
          go_wp2_with fail
          apply wp_goto
          refine ⟨J.mk (.inr (.inr (.inr ⟨rfl, hW⟩))) hO hB, ?_⟩
          refine Nat.lt_of_le_of_lt (Nat.le_of_eq mu_at) ?_
          simp
        | true =>
          have hN := hA.out.next hk c2 hr
          go_wp2_with fail
          refine (right_cut hr _).mono ?_
          rintro e w2 ⟨rfl, hb⟩
          replace hO := Lib.hid (Kd.R_below hO.out hb)
          replace hB := Lib.hid (below_step hB.out hb)
          clear hb
          go_wp2_with ((with_reducible refine gate_builtin (b := .append) (xs := #[.tmp 45, .tmp 50]) rfl ?_); at_builtin; refine Kd.R_append Kd.string (w0 := w) w.heap.size rfl (.tmp 45) (.tmp 50) 22 9 (.string ⟨#[]⟩) 16 rfl Try.underlying22 info_string rfl (by decide) (by omega) v out (s.extract fr at_) [.string (s.extract fr at_)] (fun _ => True) (fun _ => False) rfl rfl rfl (fun _ hk => hk.elim) (fun _ _ => trivial) hO.out hB.out (below_size hB.out) (by omega) ?_; intro v2 w3 ho hb hg hat; replace hO := Lib.hid ho; replace hB := Lib.hid hb; clear ho hb hg hat)
          apply wp_goto
          refine ⟨J.mk (.inl ⟨rfl, hN⟩) hO hB, ?_⟩
          refine Nat.lt_of_le_of_lt (Nat.le_of_eq mu_at) ?_
          simp
      · have c2' := byte_neq hk c2
        go_wp2_with fail
        apply wp_goto
        refine ⟨J.mk (at_ := at_ + 1) (.inr (.inl ⟨rfl, At3.more hA.out hk c2⟩)) hO hB, ?_⟩
        refine Nat.lt_of_le_of_lt (Nat.le_of_eq (mu_at (at_ := at_ + 1))) ?_
        simp
        omega
    · have c1' : decide ((at_ : Int) < (s.size : Int)) = false := decide_eq_false (by omega)
      have ee : Hid (at_ = s.size) := Lib.hid (by omega)
      have he : Hid (at_ = s.size ∨ ∃ hk : at_ < s.size, s[at_]'hk = 47) := Lib.hid (Or.inl ee.out)
      cases hr : rightB ((s.data.toList.drop fr).take (at_ - fr)) with
      | false =>
        have hW := hA.out.wrong he.out hr
        go_wp2_with fail
        refine (right_cut hr _).mono ?_
        rintro e w2 ⟨rfl, hb⟩
        replace hO := Lib.hid (Kd.R_below hO.out hb)
        replace hB := Lib.hid (below_step hB.out hb)
        clear hb
        go_wp2_with fail
        apply wp_goto
        refine ⟨J.mk (.inr (.inr (.inr ⟨rfl, hW⟩))) hO hB, ?_⟩
        refine Nat.lt_of_le_of_lt (Nat.le_of_eq mu_at) ?_
        simp
      | true =>
        have hN := hA.out.last ee.out hr
        go_wp2_with fail
        refine (right_cut hr _).mono ?_
        rintro e w2 ⟨rfl, hb⟩
        replace hO := Lib.hid (Kd.R_below hO.out hb)
        replace hB := Lib.hid (below_step hB.out hb)
        clear hb
        go_wp2_with ((with_reducible refine gate_builtin (b := .append) (xs := #[.tmp 45, .tmp 50]) rfl ?_); at_builtin; refine Kd.R_append Kd.string (w0 := w) w.heap.size rfl (.tmp 45) (.tmp 50) 22 9 (.string ⟨#[]⟩) 16 rfl Try.underlying22 info_string rfl (by decide) (by omega) v out (s.extract fr at_) [.string (s.extract fr at_)] (fun _ => True) (fun _ => False) rfl rfl rfl (fun _ hk => hk.elim) (fun _ _ => trivial) hO.out hB.out (below_size hB.out) (by omega) ?_; intro v2 w3 ho hb hg hat; replace hO := Lib.hid ho; replace hB := Lib.hid hb; clear ho hb hg hat)
        apply wp_label
        rename_i K hK
        refine hK _ _ ?_
        clear hK
        go_wp2_with fail
        (try rw [jumps_ret])
        subst hN
        go_ret2
        exact ⟨v2, rfl, hO.out, hB.out⟩
  · intro p3
    rintro a w1 ⟨at_, fr, out, v, u7, u8, u9, u10, u11, u12, u13, u14, u15, u16, u17, u18, u19, u20, u21, u22, u23, u24, u25, u26, u27, u28, u29, u30, u31, u32, u33, u34, u35, u36, u37, u38, u39, u40, u41, u42, u43, u44, u45, u46, u47, u48, u49, u50, u51, u52, u53, u54, u55, u56, rfl, hl, hO, hB⟩
    have hA : Hid (At2 s R at_ out) := Lib.hid (by simpa using hl)
    obtain ⟨A, c, rfl⟩ := Kd.R_slice hO
    replace hO := Lib.hid hO
    replace hB := Lib.hid hB
    have b1 : 0 ≤ (at_ : Int) := Int.natCast_nonneg _
    have b4 : at_ ≤ s.size := hA.out.1
    have b5 : out.length ≤ 16 := hA.out.2.1
    clear hl
    rw [mu_at]
    by_cases hk : at_ < s.size
    · have c1' : ((at_ : Int) == (s.size : Int)) = false := beq_eq_false_iff_ne.2 (by omega)
      have b2 : (at_ : Int) < (s.size : Int) := by omega
      by_cases c2 : s[at_]'hk = 47
      · have c2' := byte_eq hk c2
        by_cases c3 : out.length = 16
        · have c3' : ((out.length : Int) == 16) = true := beq_iff_eq.2 (by omega)
          have hW := hA.out.full hk c3
          go_wp2_with fail
          apply wp_goto
          refine ⟨J.mk (.inr (.inr (.inr ⟨rfl, hW⟩))) hO hB, ?_⟩
          refine Nat.lt_of_le_of_lt (Nat.le_of_eq mu_at) ?_
          simp
        · have c3' : ((out.length : Int) == 16) = false := beq_eq_false_iff_ne.2 (by omega)
          have hN := hA.out.go hk c2 c3
          go_wp2_with fail
          apply wp_label
          rename_i K hK
          refine hK _ _ ?_
          clear hK
          refine wp_mono (p3 _ _ ?_) (jumps_imp ?_)
          · exact J.mk (at_ := at_ + 1) (fr := at_ + 1) (.inr (.inl ⟨rfl, hN⟩)) hO hB
          rintro l' a' w' ⟨h1, h2⟩
          refine ⟨h1, Nat.lt_of_lt_of_le h2 (Nat.le_trans (Nat.le_of_eq (mu_at (at_ := at_ + 1))) ?_)⟩
          simp
          omega
      · have c2' := byte_neq hk c2
        have hW := hA.out.other hk c2
        go_wp2_with fail
        apply wp_goto
        refine ⟨J.mk (.inr (.inr (.inr ⟨rfl, hW⟩))) hO hB, ?_⟩
        refine Nat.lt_of_le_of_lt (Nat.le_of_eq mu_at) ?_
        simp
    · have ee : Hid (at_ = s.size) := Lib.hid (by omega)
      have c1' : ((at_ : Int) == (s.size : Int)) = true := beq_iff_eq.2 (by omega)
      have hW := hA.out.fin ee.out
      go_wp2_with fail
      apply wp_goto
      refine ⟨J.mk (.inr (.inr (.inr ⟨rfl, hW⟩))) hO hB, ?_⟩
      refine Nat.lt_of_le_of_lt (Nat.le_of_eq mu_at) ?_
      simp
  · intro p2
    go_wp2_with fail
    apply wp_label
    rename_i K hK
    refine hK _ _ ?_
    clear hK
    refine p2 _ _ ?_
    exact J.mk (at_ := 0) (fr := 0) (out := []) (.inl ⟨rfl, hA2.out⟩) (Lib.hid (Kd.R_nil Kd.string _ _ _ _)) (Lib.hid (Below.refl _ _))

end Go.Proofs.Ytljddpnnfdaplaa.Pa
