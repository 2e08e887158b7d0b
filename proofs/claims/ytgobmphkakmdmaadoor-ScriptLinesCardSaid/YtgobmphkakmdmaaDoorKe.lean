/- Structs and arrays of whole numbers: when two are the same; what a literal of a struct makes. Own work; nothing of a program is named here. -/
import Derived.Test.YtgobmphkakmdmaaDoorKd
import Derived.Laws.StructEq
namespace Go.Kx
open Go
def mkI (ks : List IntKind) (xs : List Int) : List Value := List.zipWith Value.int ks xs
theorem mkI_length {ks : List IntKind} {xs : List Int} (h : ks.length = xs.length) : (mkI ks xs).length = ks.length := by simp [mkI, h]
theorem mkI_drop (ks : List IntKind) (xs : List Int) (o : Nat) : (mkI ks xs).drop o = mkI (ks.drop o) (xs.drop o) := by simp [mkI, List.drop_zipWith]
theorem mkI_take (ks : List IntKind) (xs : List Int) (o : Nat) : (mkI ks xs).take o = mkI (ks.take o) (xs.take o) := by simp [mkI, List.take_zipWith]
theorem mkI_append {ks ks' : List IntKind} {xs xs' : List Int} (h : ks.length = xs.length) : mkI (ks ++ ks') (xs ++ xs') = mkI ks xs ++ mkI ks' xs' := by
  simp [mkI, List.zipWith_append h]
theorem mkI_replicate (k : IntKind) (m : Nat) (xs : List Int) (h : xs.length = m) : mkI (List.replicate m k) xs = ints k xs := by
  subst h
  induction xs with
  | nil => rfl
  | cons x xs ih => simp only [List.length_cons, List.replicate_succ, mkI, List.zipWith_cons_cons, ints, List.map_cons]; rw [← ints, ← mkI, ih]

def flatFs (gk : TypeId → Option (List IntKind)) (sz : TypeId → Option Nat) : List Field → Nat → Option (List IntKind)
  | [], _ => some []
  | f :: fs, off =>
    match gk f.type, sz f.type, flatFs gk sz fs (off + ((gk f.type).getD []).length) with
    | some ks, some s, some r => if f.name ≠ "_" ∧ f.offset = off ∧ s = ks.length then some (ks ++ r) else none
    | _, _, _ => none
/-- The kinds of a type that holds whole numbers alone. -/
def flatK (P : Program) : Nat → TypeId → Option (List IntKind)
  | 0, _ => none
  | d + 1, T =>
    match P.underlying T with
    | some (.int k) => some [k]
    | some (.array m E) =>
      match flatK P d E, (P.info? E).map (·.size) with
      | some ks, some s => if s = ks.length then some (List.replicate m ks).flatten else none
      | _, _ => none
    | some (.struct fs) => if P.stoodInHeld T then none else flatFs (flatK P d) (fun t => (P.info? t).map (·.size)) fs.toList 0
    | _ => none
def isAggB (P : Program) (T : TypeId) : Bool := match P.underlying T with | some (.struct _) => true | some (.array _ _) => true | _ => false
def vOf (P : Program) (T : TypeId) (ks : List IntKind) (xs : List Int) : Value := if isAggB P T then .agg (mkI ks xs).toArray else (mkI ks xs).headD undef

section
variable {P : Program} {w : World}
theorem run_isAggB {T : TypeId} {d : TypeDesc} (h : P.underlying T = some d) : (isAgg T).run P w = .ok (isAggB P T) w := by
  unfold isAgg isAggB
  rw [Sem.run_bind, run_underlying h w, h]
  cases d <;> rfl
theorem flatK_und {d : Nat} {T : TypeId} {ks : List IntKind} (h : flatK P d T = some ks) : ∃ de, P.underlying T = some de := by
  cases d with
  | zero => simp [flatK] at h
  | succ d =>
    unfold flatK at h
    split at h <;> first | exact ⟨_, by assumption⟩ | simp at h
/-- A part of a flat value. -/
theorem run_part {d : Nat} {T : TypeId} {ks : List IntKind} (hk : flatK P d T = some ks) (hs : (P.info? T).map (·.size) = some ks.length) {K : List IntKind} {X : List Int} {off : Nat} {r : List IntKind}
    (hK : K.drop off = ks ++ r) (hl : K.length = X.length) (h1 : isAggB P T = false → ks.length = 1) :
    (part T (mkI K X).toArray off).run P w = .ok (vOf P T ks ((X.drop off).take ks.length)) w := by
  obtain ⟨de, hu⟩ := flatK_und hk
  unfold part
  simp only [Sem.run_bind, run_isAggB hu, Result.andThen_ok]
  have hdt : ((mkI K X).drop off).take ks.length = mkI ks ((X.drop off).take ks.length) := by
    rw [mkI_drop, mkI_take, hK, List.take_left]
  cases hb : isAggB P T with
  | true =>
    simp only [if_true, Sem.run_bind, run_sizeOf hs, Result.andThen_ok, Sem.run_pure, vOf, hb]
    congr 2
    apply Array.ext'
    rw [← hdt]
    simp [List.take_drop]
  | false =>
    have hk1 := h1 hb
    simp only [Bool.false_eq_true, if_false, vOf, hb]
    rw [← hdt, hk1]
    have hlt : off < (mkI K X).length := by
      rw [mkI_length hl]
      have := congrArg List.length hK
      simp at this; omega
    have : (mkI K X).toArray[off]? = some (mkI K X)[off] := by simp [hlt]
    rw [this]
    simp only [Sem.run_pure]
    congr 1
    cases hd : (mkI K X).drop off with
    | nil => have := congrArg List.length hd; simp at this; omega
    | cons v l =>
      have : (mkI K X)[off] = v := by
        have h2 : ((mkI K X).drop off)[0]? = some v := by rw [hd]; rfl
        rw [List.getElem?_drop] at h2
        simpa [hlt] using h2
      simp [this]
theorem flat_one {d : Nat} {T : TypeId} {ks : List IntKind} (hk : flatK P d T = some ks) (hb : isAggB P T = false) : ks.length = 1 := by
  cases d with
  | zero => simp [flatK] at hk
  | succ d =>
    unfold flatK at hk
    unfold isAggB at hb
    split at hk
    · simp at hk; subst hk; rfl
    · rename_i h; simp [h] at hb
    · rename_i h; simp [h] at hb
    · simp at hk
theorem take_drop_eq {X Y : List Int} {off m : Nat} (_ : X.length = Y.length) : (X.drop off = Y.drop off) ↔ ((X.drop off).take m = (Y.drop off).take m ∧ X.drop (off + m) = Y.drop (off + m)) := by
  constructor
  · intro e; exact ⟨by rw [e], by rw [← List.drop_drop, ← List.drop_drop, e]⟩
  · rintro ⟨h1, h2⟩
    rw [← List.take_append_drop m (X.drop off), ← List.take_append_drop m (Y.drop off), h1, List.drop_drop, List.drop_drop, h2]

theorem run_eqFields {d d' : Nat} (ih : ∀ T ks, flatK P d T = some ks → ∀ (xs ys : List Int) (w : World), xs.length = ks.length → ys.length = ks.length →
      (Op.equalIn d' T (vOf P T ks xs) (vOf P T ks ys)).run P w = .ok (decide (xs = ys)) w) {K : List IntKind} {X Y : List Int} (hX : K.length = X.length) (hY : K.length = Y.length) :
    ∀ (fs : List Field) (off : Nat) (ks : List IntKind) (w : World), flatFs (flatK P d) (fun t => (P.info? t).map (·.size)) fs off = some ks → K.drop off = ks →
      (Op.eqFields d' (mkI K X).toArray (mkI K Y).toArray fs).run P w = .ok (decide (X.drop off = Y.drop off)) w
  | [], off, ks, w, hf, hK => by
    simp [flatFs] at hf
    subst hf
    have : X.length ≤ off := by have := congrArg List.length hK; simp at this; omega
    have h2 : Y.length ≤ off := by have := congrArg List.length hK; simp at this; omega
    simp [Op.eqFields, List.drop_eq_nil_of_le this, List.drop_eq_nil_of_le h2]
  | f :: fs, off, ks, w, hf, hK => by
    unfold flatFs at hf
    split at hf
    · rename_i ks' s r hk hs hr
      split at hf
      · rename_i hc
        obtain ⟨hn, ho, rfl⟩ := hc
        simp only [Option.some.injEq] at hf
        subst hf
        rw [hk] at hr
        simp only [Option.getD_some] at hr
        subst ho
        have hlen := congrArg List.length hK
        simp only [List.length_drop, List.length_append] at hlen
        have hne : K ≠ [] ∨ ks'.length = 0 := by
          cases ks' with
          | nil => exact .inr rfl
          | cons a l => left; intro e; simp [e] at hK
        have hoff : ks'.length = 0 ∨ f.offset + ks'.length ≤ K.length := by
          rcases Nat.eq_zero_or_pos ks'.length with h | h
          · exact .inl h
          · right; omega
        have lX : ((X.drop f.offset).take ks'.length).length = ks'.length := by simp; omega
        have lY : ((Y.drop f.offset).take ks'.length).length = ks'.length := by simp; omega
        have ihf := run_eqFields ih hX hY fs (f.offset + ks'.length) r w hr (by rw [← List.drop_drop, hK, List.drop_left])
        simp only [Op.eqFields]
        rw [if_pos hn]
        simp only [Sem.run_bind, run_part hk hs hK hX (flat_one hk), run_part hk hs hK hY (flat_one hk), Result.andThen_ok, ih _ _ hk _ _ _ lX lY]
        by_cases he : (X.drop f.offset).take ks'.length = (Y.drop f.offset).take ks'.length
        · simp only [he, decide_true, Bool.not_true, Bool.false_eq_true, if_false, ihf]
          congr 1
          have := take_drop_eq (off := f.offset) (m := ks'.length) (show X.length = Y.length by omega)
          simp only [this, he, true_and]
        · have hne : X.drop f.offset ≠ Y.drop f.offset := fun e => he (by rw [e])
          simp [he, hne]
      · simp at hf
    · simp at hf
/-- The elements of arrays, one by one. -/
def eqElems (d : Nat) (E : TypeId) (n : Nat) (xs ys : Array Value) : List Nat → Sem Bool
  | [] => pure true
  | i :: l => do
    let a ← part E xs (i * n)
    let b ← part E ys (i * n)
    let r ← Op.equalIn d E a b
    if (!r) = true then pure false else eqElems d E n xs ys l
theorem run_equalIn_array {d : Nat} {T E : TypeId} {m s : Nat} (hu : P.underlying T = some (.array m E)) (hs : (P.info? E).map (·.size) = some s) (xs ys : Array Value) :
    (Op.equalIn (d + 1) T (.agg xs) (.agg ys)).run P w = (eqElems d E s xs ys (List.range' 0 m)).run P w := by
  simp only [Op.equalIn, Sem.run_bind, run_underlying hu, Result.andThen_ok, run_sizeOf hs]
  rw [Std.Legacy.Range.forIn_eq_forIn_range']
  simp only [Std.Legacy.Range.size, Nat.sub_zero, Nat.add_sub_cancel, Nat.div_one]
  generalize List.range' 0 m = l
  induction l generalizing w with
  | nil => simp [eqElems]
  | cons i l ih =>
    simp only [List.forIn_cons, eqElems, Sem.run_bind, Sem.run_ite]
    generalize (part E xs (i * s)).run P w = r1
    cases r1 with
    | halt x w1 => simp [Result.andThen]
    | ok a w1 =>
      simp only [Result.andThen_ok]
      generalize (part E ys (i * s)).run P w1 = r2
      cases r2 with
      | halt x w2 => simp [Result.andThen]
      | ok b w2 =>
        simp only [Result.andThen_ok]
        generalize (Op.equalIn d E a b).run P w2 = r3
        cases r3 with
        | halt x w3 => simp [Result.andThen]
        | ok r w3 =>
          cases r
          · simp only [Result.andThen_ok, Bool.not_false, if_true, Sem.run_pure]
          · simp only [Result.andThen_ok, Bool.not_true, Bool.false_eq_true, if_false, Sem.run_pure]
            exact ih (w := w3)
theorem flatten_drop {ks : List IntKind} : ∀ (m i : Nat), i < m → ((List.replicate m ks).flatten).drop (i * ks.length) = ks ++ (List.replicate (m - i - 1) ks).flatten
  | 0, i, h => by omega
  | m + 1, 0, _ => by simp [List.replicate_succ]
  | m + 1, i + 1, h => by
    have := flatten_drop (ks := ks) m i (by omega)
    rw [List.replicate_succ, List.flatten_cons, Nat.add_mul, Nat.one_mul, Nat.add_comm, ← List.drop_drop, List.drop_left, this]
    congr 3
    omega
theorem run_eqElems {d d' : Nat} {E : TypeId} {ks : List IntKind} (ih : ∀ (xs ys : List Int) (w : World), xs.length = ks.length → ys.length = ks.length →
      (Op.equalIn d' E (vOf P E ks xs) (vOf P E ks ys)).run P w = .ok (decide (xs = ys)) w) (hk : flatK P d E = some ks) (hs : (P.info? E).map (·.size) = some ks.length)
    {m : Nat} {X Y : List Int} (hX : (List.replicate m ks).flatten.length = X.length) (hY : (List.replicate m ks).flatten.length = Y.length) :
    ∀ (c i : Nat) (w : World), i + c = m → (eqElems d' E ks.length (mkI (List.replicate m ks).flatten X).toArray (mkI (List.replicate m ks).flatten Y).toArray (List.range' i c)).run P w = .ok (decide (X.drop (i * ks.length) = Y.drop (i * ks.length))) w
  | 0, i, w, hi => by
    have hl : (List.replicate m ks).flatten.length = m * ks.length := by simp
    have h1 : X.length ≤ i * ks.length := by rw [← hX, hl]; exact Nat.mul_le_mul_right _ (by omega)
    have h2 : Y.length ≤ i * ks.length := by rw [← hY, hl]; exact Nat.mul_le_mul_right _ (by omega)
    simp [eqElems, List.drop_eq_nil_of_le h1, List.drop_eq_nil_of_le h2]
  | c + 1, i, w, hi => by
    have hl : (List.replicate m ks).flatten.length = m * ks.length := by simp
    have hd := flatten_drop (ks := ks) m i (by omega)
    have hle : i * ks.length + ks.length ≤ m * ks.length := by
      have := Nat.mul_le_mul_right ks.length (show i + 1 ≤ m by omega)
      rwa [Nat.add_mul, Nat.one_mul] at this
    have lX : ((X.drop (i * ks.length)).take ks.length).length = ks.length := by simp; omega
    have lY : ((Y.drop (i * ks.length)).take ks.length).length = ks.length := by simp; omega
    have ihc := run_eqElems ih hk hs hX hY c (i + 1) w (by omega)
    simp only [List.range'_succ, eqElems, Sem.run_bind, run_part hk hs hd hX (flat_one hk), run_part hk hs hd hY (flat_one hk), Result.andThen_ok, ih _ _ _ lX lY]
    by_cases he : (X.drop (i * ks.length)).take ks.length = (Y.drop (i * ks.length)).take ks.length
    · simp only [he, decide_true, Bool.not_true, Bool.false_eq_true, if_false, ihc]
      congr 1
      have := take_drop_eq (off := i * ks.length) (m := ks.length) (show X.length = Y.length by omega)
      simp only [this, he, true_and, Nat.add_mul, Nat.one_mul]
    · have hne : X.drop (i * ks.length) ≠ Y.drop (i * ks.length) := fun e => he (by rw [e])
      simp [he, hne]
/-- Two flat values are the same just where their numbers are. -/
theorem run_equalIn_flat : ∀ (d d' : Nat) (T : TypeId) (ks : List IntKind), flatK P d T = some ks → d ≤ d' → ∀ (xs ys : List Int) (w : World), xs.length = ks.length → ys.length = ks.length →
      (Op.equalIn d' T (vOf P T ks xs) (vOf P T ks ys)).run P w = .ok (decide (xs = ys)) w
  | 0, _, _, _, h, _, _, _, _, _, _ => by simp [flatK] at h
  | d + 1, 0, _, _, _, h, _, _, _, _, _ => by omega
  | d + 1, d' + 1, T, ks, h, hd, xs, ys, w, hx, hy => by
    have ih := run_equalIn_flat d d'
    unfold flatK at h
    split at h
    · rename_i k hu
      simp only [Option.some.injEq] at h
      subst h
      obtain ⟨x, rfl⟩ : ∃ x, xs = [x] := by
        match xs, hx with
        | [x], _ => exact ⟨x, rfl⟩
      obtain ⟨y, rfl⟩ : ∃ y, ys = [y] := by
        match ys, hy with
        | [y], _ => exact ⟨y, rfl⟩
      have hb : isAggB P T = false := by simp [isAggB, hu]
      simp only [vOf, hb, Bool.false_eq_true, if_false, mkI, List.zipWith_cons_cons, List.zipWith_nil_left, List.headD_cons]
      rw [run_equalIn_int w d' T k k x y hu]
      by_cases hxy : x = y <;> simp [hxy]
    · rename_i m E hu
      split at h
      · rename_i ks' s hk hs
        split at h
        · rename_i hse
          subst hse
          simp only [Option.some.injEq] at h
          subst h
          have hb : isAggB P T = true := by simp [isAggB, hu]
          simp only [vOf, hb, if_true]
          rw [run_equalIn_array hu hs, run_eqElems (d := d) (fun xs ys w => ih E ks' hk (by omega) xs ys w) hk hs hx.symm hy.symm m 0 w (by omega)]
          simp
        · simp at h
      · simp at h
    · rename_i fs hu
      split at h
      · simp at h
      · rename_i hst
        have hb : isAggB P T = true := by simp [isAggB, hu]
        simp only [vOf, hb, if_true]
        have hfo : P.fieldsOf T = fs := by simp [Program.fieldsOf, hu]
        rw [run_equalIn_struct w d' T _ _ (by rw [hfo]; exact hu) (by simpa using hst), hfo,
          run_eqFields (d := d) (fun T ks hk xs ys w => ih T ks hk (by omega) xs ys w) hx.symm hy.symm fs.toList 0 ks w h (by simp)]
        simp
    · simp at h
/-- A type that holds whole numbers alone, these kinds. -/
class TFlat (P : Program) (T : TypeId) (ks : outParam (List IntKind)) : Prop where
  h : flatK P 12 T = some ks
  a : isAggB P T = true
  g : P.eqGuardType P.depth T = false
variable {n : Nat} {env : Env} {dst : Option Tmp} {ty : TypeId} {pos : String} {aft : Array Edge} {g : Option (Nat × Bool)}
theorem x_eql_flat {T T' : TypeId} {ks : List IntKind} [hT : TFlat P T ks] {x y : Operand} {xs ys : List Int} (hx : ev n env x = .agg (mkI ks xs).toArray) (hy : ev n env y = .agg (mkI ks ys).toArray)
    (lx : xs.length = ks.length) (ly : ys.length = ks.length) : Run P n env ⟨dst, .binOp .eql T x y T', ty, pos, aft, g⟩ w (.ok (.value (.bool (decide (xs = ys)))) w) := by
  have h := run_equalIn_flat (P := P) 12 10000 T ks hT.h (by omega) xs ys w lx ly
  simp only [vOf, hT.a, if_true] at h
  unfold Run
  simp [execOp, hx, hy, run_eqGuard_agg w .eql T x y _ _ hT.g, run_eql_struct, h]
theorem x_neq_flat {T T' : TypeId} {ks : List IntKind} [hT : TFlat P T ks] {x y : Operand} {xs ys : List Int} (hx : ev n env x = .agg (mkI ks xs).toArray) (hy : ev n env y = .agg (mkI ks ys).toArray)
    (lx : xs.length = ks.length) (ly : ys.length = ks.length) : Run P n env ⟨dst, .binOp .neq T x y T', ty, pos, aft, g⟩ w (.ok (.value (.bool (decide (xs ≠ ys)))) w) := by
  have h := run_equalIn_flat (P := P) 12 10000 T ks hT.h (by omega) xs ys w lx ly
  simp only [vOf, hT.a, if_true] at h
  unfold Run
  simp [execOp, hx, hy, run_eqGuard_agg w .neq T x y _ _ hT.g, run_neq_struct, h]
/-! Loads, stores, results of flat values. -/
theorem mkI_get {K : List IntKind} {X : List Int} {i : Nat} {k : IntKind} (hk : K[i]? = some k) (hl : K.length = X.length) : (mkI K X)[i]? = some (.int k (X.getD i 0)) := by
  have hi : i < K.length := (List.getElem?_eq_some_iff.1 hk).1
  simp [mkI, List.getElem?_zipWith, hk, List.getD, show i < X.length by omega]
theorem x_load_fl {T : TypeId} {s : Nat} {K ks : List IntKind} [TFlat P T ks] [TAgg P T s] {x : Operand} {b off : Nat} {E : TypeId} {fz : Nat × Nat} {X : List Int} (hx : ev n env x = .pointer (some ⟨b, off, none⟩))
    (hb : Blk w b E fz (mkI K X)) (hK : (K.drop off).take ks.length = ks) (hl : K.length = X.length) (hsz : s = ks.length) :
    Run P n env ⟨dst, .load T x, ty, pos, aft, g⟩ w (.ok (.value (.agg (mkI ks ((X.drop off).take ks.length)).toArray)) w) := by
  have hlen := congrArg List.length hK
  simp only [List.length_take, List.length_drop] at hlen
  refine x_loadN (T := T) hx hb (by rw [mkI_length (by simp; omega)]; exact hsz.symm) (fun j hj => ?_)
  subst hsz
  have e : mkI ks ((X.drop off).take ks.length) = ((mkI K X).drop off).take ks.length := by rw [mkI_drop, mkI_take, hK]
  rw [e, List.getElem?_take, if_pos hj, List.getElem?_drop]
theorem x_load_flw {T : TypeId} {s : Nat} {ks : List IntKind} [TFlat P T ks] [TAgg P T s] {x : Operand} {b : Nat} {E : TypeId} {fz : Nat × Nat} {X : List Int} (hx : ev n env x = .pointer (some ⟨b, 0, none⟩))
    (hb : Blk w b E fz (mkI ks X)) (hl : ks.length = X.length) (hsz : s = ks.length) :
    Run P n env ⟨dst, .load T x, ty, pos, aft, g⟩ w (.ok (.value (.agg (mkI ks X).toArray)) w) :=
  x_loadN (T := T) hx hb (by rw [mkI_length hl]; exact hsz.symm) (fun j _ => by rw [Nat.zero_add])
theorem x_load_fl1 {T : TypeId} {K : List IntKind} {k : IntKind} [TOne P T] {x : Operand} {b off : Nat} {E : TypeId} {fz : Nat × Nat} {X : List Int} (hx : ev n env x = .pointer (some ⟨b, off, none⟩))
    (hb : Blk w b E fz (mkI K X)) (hK : K[off]? = some k) (hl : K.length = X.length) :
    Run P n env ⟨dst, .load T x, ty, pos, aft, g⟩ w (.ok (.value (.int k (X.getD off 0))) w) :=
  x_load1 hx hb (mkI_get hK hl)
def layI (X : List Int) (o : Nat) (Y : List Int) : List Int := X.take o ++ Y ++ X.drop (o + Y.length)
theorem layI_length {X Y : List Int} {o : Nat} (h : o + Y.length ≤ X.length) : (layI X o Y).length = X.length := by
  simp [layI]; omega
theorem lay_mkI {K ks : List IntKind} {X Y : List Int} {off : Nat} (hK : (K.drop off).take ks.length = ks) (hl : K.length = X.length) (hy : ks.length = Y.length) : lay (mkI K X) off (mkI ks Y) = mkI K (layI X off Y) := by
  have hlen := congrArg List.length hK
  simp only [List.length_take, List.length_drop] at hlen
  have hks : K = K.take off ++ ks ++ K.drop (off + ks.length) := by
    conv => lhs; rw [← List.take_append_drop off K, ← List.take_append_drop ks.length (K.drop off), hK, List.drop_drop]
    rw [List.append_assoc]
  unfold lay layI
  rw [mkI_take, mkI_drop, mkI_length hy]
  have hle : off ≤ K.length ∨ ks.length = 0 := by omega
  rcases Nat.eq_zero_or_pos ks.length with h0 | hpos
  · have hks0 : ks = [] := List.eq_nil_of_length_eq_zero h0
    have hY0 : Y = [] := List.eq_nil_of_length_eq_zero (by omega)
    subst hks0; subst hY0
    simp [mkI, ← List.take_zipWith, ← List.drop_zipWith, List.take_append_drop]
  · conv => rhs; rw [hks]
    rw [mkI_append (by simp; omega), mkI_append (by simp; omega), ← hy]
theorem mkI_one (ks : List IntKind) (xs : List Int) : (mkI ks xs).all (·.oneCell') = true := by
  rw [List.all_eq_true]
  intro v hv
  induction ks generalizing xs with
  | nil => simp [mkI] at hv
  | cons k ks ih =>
    cases xs with
    | nil => simp [mkI] at hv
    | cons x xs =>
      simp only [mkI, List.zipWith_cons_cons, List.mem_cons] at hv
      rcases hv with rfl | hv
      · rfl
      · exact ih xs hv
variable {f : Fm} {R : Ending → World → Prop} {k : List Item} {pre rest : List Oper}
theorem AtG_store_fl {T : TypeId} {s : Nat} {K ks : List IntKind} [TFlat P T ks] [hs : TSz P T s] {x y : Operand} {b off : Nat} {E : TypeId} {X Y : List Int} (hx : ev n env x = .pointer (some ⟨b, off, none⟩))
    (hy : ev n env y = .agg (mkI ks Y).toArray) (hb : Blk w b E (0, 0) (mkI K X)) (hK : (K.drop off).take ks.length = ks) (hl : K.length = X.length) (hly : ks.length = Y.length) (hsz : s = ks.length)
    (h : ∀ w', Eff w w' b (.cells (mkI K (layI X off Y)).toArray E (0, 0)) → AtR P f n R (⟨dst, .store T x y, ty, pos, aft, g⟩ :: pre) rest k (updo env dst undef) w') :
    AtG P f n R pre ⟨dst, .store T x y, ty, pos, aft, g⟩ rest k env w := by
  have hlen := congrArg List.length hK
  simp only [List.length_take, List.length_drop] at hlen
  rcases Nat.eq_zero_or_pos ks.length with h0 | hpos
  · have hks0 : ks = [] := List.eq_nil_of_length_eq_zero h0
    have hY0 : Y = [] := List.eq_nil_of_length_eq_zero (by omega)
    subst hks0; subst hY0; subst hsz
    refine AtG_skip (w' := w) ?_ (h w ⟨rfl, rfl, rfl, Nat.le_refl _, hb.lt, ?_, fun _ _ _ => rfl⟩)
    · unfold Run
      simp [execOp, Instr.storeAt, hx, hy, Instr.sureAddr, storeVar, run_sizeOf hs.h, Value.cells, mkI, storeCells]
    · have : layI X off [] = X := by simp [layI]
      rw [this]; exact hb
  · refine AtG_storeN (s := s) hx hy hb (by rw [mkI_length hly]; exact hsz.symm) (by rw [mkI_length hl]; omega) (mkI_one _ _) (fun w' he => ?_)
    rw [lay_mkI hK hl hly] at he
    exact h w' he
/-- The zeros of a flat type. -/
theorem mkI_zeros (ks : List IntKind) : mkI ks (List.replicate ks.length 0) = ks.map fun k => Value.int k 0 := by
  induction ks with
  | nil => rfl
  | cons k ks ih => simp only [List.length_cons, List.replicate_succ, mkI, List.zipWith_cons_cons, List.map_cons]; rw [← ih]; rfl
theorem AtG_alloc_fl {T : TypeId} {ks : List IntKind} {z : List Value} [TFlat P T ks] [TZ P T (.agg z.toArray)] (hz : z = ks.map fun k => Value.int k 0)
    (h : ∀ b w', b = w.heap.size → Eff w w' b (.cells (mkI ks (List.replicate ks.length 0)).toArray T (0, 0)) → AtR P f n R (⟨dst, .alloc T, ty, pos, aft, g⟩ :: pre) rest k (updo env dst (.pointer (some ⟨b, 0, none⟩))) w') :
    AtG P f n R pre ⟨dst, .alloc T, ty, pos, aft, g⟩ rest k env w :=
  AtG_alloc (z := .agg z.toArray) fun b w' hb he => h b w' hb (by rw [mkI_zeros, ← hz]; exact he)

/-! A result that lies in a cell. -/
theorem run_load_agg_cells {T : TypeId} {s : Nat} [TAgg P T s] {b : Nat} {E : TypeId} {fz : Nat × Nat} {cs : List Value} (hb : Blk w b E fz cs) (hl : cs.length = s) : (loadVar T ⟨b, 0, none⟩).run P w = .ok (.agg cs.toArray) w :=
  run_loadVar_agg hb hl (fun j _ => by rw [Nat.zero_add])
theorem At_ret_cell {fn : Func} {t : Tmp} {T : TypeId} {s : Nat} [TAgg P T s] {b : Nat} {E : TypeId} {fz : Nat × Nat} {cs : List Value} (hf : P.funcs[f.fn]? = some fn) (hr : fn.results = #[.cell t T])
    (hv : ev n env (.tmp t) = .pointer (some ⟨b, 0, none⟩)) (hb : Blk w b E fz cs) (hl : cs.length = s) (h : R (.returned (.agg cs.toArray)) w) (h0 : f.round = none := by rfl) (hd0 : f.ds = [] := by rfl) : At P f n R (.code .ret :: k) env w := by
  refine At_ret hf ?_ h h0 hd0
  have h1 := congrFun (eval_mkA n env) (.tmp t)
  rw [hv] at h1
  have h2 : (mkA n env).tmps[t]?.getD undef = .pointer (some ⟨b, 0, none⟩) := by simpa [Act.eval] using h1
  simp [results, hr, h2, asAddr, run_load_agg_cells hb hl]
theorem At_ret_cell2 {fn : Func} {t u : Tmp} {v : Value} {T : TypeId} {s : Nat} [TAgg P T s] {b : Nat} {E : TypeId} {fz : Nat × Nat} {cs : List Value} (hf : P.funcs[f.fn]? = some fn) (hr : fn.results = #[.cell t T, .tmp u])
    (hv : ev n env (.tmp t) = .pointer (some ⟨b, 0, none⟩)) (hb : Blk w b E fz cs) (hl : cs.length = s) (hu : ev n env (.tmp u) = v) (h : R (.returned (.tuple #[.agg cs.toArray, v])) w) (h0 : f.round = none := by rfl) (hd0 : f.ds = [] := by rfl) : At P f n R (.code .ret :: k) env w := by
  refine At_ret hf ?_ h h0 hd0
  have h1 := congrFun (eval_mkA n env) (.tmp t)
  rw [hv] at h1
  have h2 : (mkA n env).tmps[t]?.getD undef = .pointer (some ⟨b, 0, none⟩) := by simpa [Act.eval] using h1
  have h3 := congrFun (eval_mkA n env) (.tmp u)
  rw [hu] at h3
  have h4 : (mkA n env).tmps[u]?.getD undef = v := by simpa [Act.eval] using h3
  simp [results, hr, h2, h4, asAddr, run_load_agg_cells hb hl]
theorem x_build {T : TypeId} {parts : List (Nat × Operand)} {pl : List (Nat × Value)} {cs : List Value} (hp : parts.map (fun p => (p.1, ev n env p.2)) = pl) (hb : P.built T pl = some cs.toArray) :
    Run P n env ⟨dst, .build T parts.toArray, ty, pos, aft, g⟩ w (.ok (.value (.agg cs.toArray)) w) := by
  have h := run_build (P := P) w T pl.toArray cs.toArray (by simpa using hb)
  have e : parts.toArray.map (fun (i, x) => (i, ev n env x)) = pl.toArray := by
    rw [← hp]; simp
  unfold Run
  simp only [execOp, e, Sem.run_bind, h, Result.andThen_ok, Sem.run_pure]
end
end Go.Kx
