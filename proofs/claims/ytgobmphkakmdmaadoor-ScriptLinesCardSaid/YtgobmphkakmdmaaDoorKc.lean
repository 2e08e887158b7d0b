/- Slices, rows of cells, append, make, copy, build: said of blocks. Own work; nothing of a program is named here. -/
import Derived.Test.YtgobmphkakmdmaaDoorKb
import Derived.Deep.AppendSrc
namespace Go.Kx
open Go
section
variable {P : Program} {n : Nat} {env : Env} {w : World} {dst : Option Tmp} {ty : TypeId} {pos : String} {aft : Array Edge} {g : Option (Nat × Bool)}

theorem Eff.trans {w1 w2 w3 : World} {b : Nat} {o o' : Obj} (h : Eff w1 w2 b o) (h' : Eff w2 w3 b o') : Eff w1 w3 b o' :=
  ⟨h'.os.trans h.os, h'.tape.trans h.tape, h'.output.trans h.output, Nat.le_trans h.size h'.size, h'.lt, h'.here,
    fun j hj hl => (h'.other j hj (Nat.lt_of_lt_of_le hl h.size)).trans (h.other j hj hl)⟩
/-- Cells with others laid over them. -/
def lay (cs : List Value) (o : Nat) (vs : List Value) : List Value := cs.take o ++ vs ++ cs.drop (o + vs.length)
theorem lay_length {cs vs : List Value} {o : Nat} (h : o + vs.length ≤ cs.length) : (lay cs o vs).length = cs.length := by
  simp [lay]; omega
theorem lay_cons {cs vs : List Value} {o : Nat} {v : Value} (h : o < cs.length) : lay (cs.set o v) (o + 1) vs = lay cs o (v :: vs) := by
  unfold lay
  apply List.ext_getElem?
  intro j
  simp only [List.getElem?_append, List.getElem?_take, List.getElem?_drop, List.length_take, List.length_set, List.length_append, List.length_cons, List.getElem?_set]
  have e : o + 1 + vs.length = o + (vs.length + 1) := by omega
  by_cases h1 : j < o
  · have : j < o + 1 := by omega
    simp [h1, this, show min (o + 1) cs.length = o + 1 by omega, show min o cs.length = o by omega, show o ≠ j by omega, show j < o + 1 + vs.length by omega, show j < o + (vs.length + 1) by omega]
  · by_cases h2 : j = o
    · subst h2
      simp [show min (j + 1) cs.length = j + 1 by omega, show min j cs.length = j by omega, show j < j + 1 + vs.length by omega, h]
    · by_cases h3 : j < o + 1 + vs.length
      · simp [h1, show ¬ j < o + 1 by omega, show min (o + 1) cs.length = o + 1 by omega, show min o cs.length = o by omega, h3, show j < o + (vs.length + 1) by omega, show j - o = (j - (o + 1)) + 1 by omega]
      · simp [show min (o + 1) cs.length = o + 1 by omega, show min o cs.length = o by omega, show ¬ j < o + (vs.length + 1) by omega, show ¬ (o = o + (vs.length + 1) + (j - (o + (vs.length + 1)))) by omega, e]
theorem lay_nil (cs : List Value) (o : Nat) : lay cs o [] = cs := by simp [lay]
theorem run_storeCells_eff {b off : Nat} {E : TypeId} : ∀ (vs : List Value) (i : Nat) (cs : List Value) (w : World), Blk w b E (0, 0) cs → off + i + vs.length ≤ cs.length → (∀ v ∈ vs, v.oneCell' = true) →
    ∃ w', (storeCells ⟨b, off, none⟩ vs i).run P w = .ok () w' ∧ Eff w w' b (.cells (lay cs (off + i) vs).toArray E (0, 0))
  | [], i, cs, w, hb, _, _ => ⟨w, by simp [storeCells], by
      rw [lay_nil]
      exact ⟨rfl, rfl, rfl, Nat.le_refl _, hb.lt, hb, fun _ _ _ => rfl⟩⟩
  | v :: vs, i, cs, w, hb, hl, h1 => by
    simp only [List.length_cons] at hl
    have hv : one v = true := by
      have := h1 v (List.mem_cons_self ..)
      cases v <;> simp_all [Value.oneCell', one]
    have he := eff_setCell (off := off + i) hb v
    obtain ⟨w', hr, hw⟩ := run_storeCells_eff (b := b) (off := off) vs (i + 1) (cs.set (off + i) v) _ he.blk (by simp; omega) (fun u hu => h1 u (List.mem_cons_of_mem _ hu))
    refine ⟨w', ?_, ?_⟩
    · simp [storeCells, add_none, run_store_one hb (show off + i < cs.length by omega) hv, hr]
    · have := he.trans hw
      rwa [← Nat.add_assoc, lay_cons (by omega)] at this

/-- A store of a struct or an array. -/
theorem AtG_storeN {f : Fm} {R : Ending → World → Prop} {k : List Item} {pre rest : List Oper} {T : TypeId} {s : Nat} [hs : TSz P T s] {x y : Operand} {b off : Nat} {E : TypeId} {cs vs : List Value} (hx : ev n env x = .pointer (some ⟨b, off, none⟩))
    (hy : ev n env y = .agg vs.toArray) (hb : Blk w b E (0, 0) cs) (hl : vs.length = s) (ho : off + s ≤ cs.length) (h1 : vs.all (·.oneCell') = true)
    (h : ∀ w', Eff w w' b (.cells (lay cs off vs).toArray E (0, 0)) → AtR P f n R (⟨dst, .store T x y, ty, pos, aft, g⟩ :: pre) rest k (updo env dst undef) w') :
    AtG P f n R pre ⟨dst, .store T x y, ty, pos, aft, g⟩ rest k env w := by
  obtain ⟨w', hr, hw⟩ := run_storeCells_eff (P := P) (b := b) (off := off) (E := E) vs 0 cs w hb (by omega) (fun v hv => (List.all_eq_true.1 h1) v hv)
  refine AtG_skip (w' := w') ?_ (h _ hw)
  unfold Run
  simp [execOp, Instr.storeAt, hx, hy, Instr.sureAddr, storeVar, run_sizeOf hs.h, Value.cells, hl, hr]

/-! Slicing a slice. -/
theorem x_slice_h {T E : TypeId} {s : Nat} [hT : TU P T (.slice E)] [hs : TSz P E s] {x hi : Operand} {b off len cap : Nat} {kh : IntKind} {h : Int}
    (hx : ev n env x = .slice (some ⟨b, off, none⟩) len cap) (hh : ev n env hi = .int kh h) (h0 : 0 ≤ h) (h2 : h ≤ cap) :
    Run P n env ⟨dst, .slice T x none (some hi) none, ty, pos, aft, g⟩ w (.ok (.value (.slice (some ⟨b, off, none⟩) h.toNat cap)) w) := by
  have hb : (Instr.sliceBound (.int kh h) cap .sliceAcap).run P w = .ok h.toNat w := run_sliceBound w kh h cap _ h0 h2
  unfold Run
  simp [execOp, hx, hh, Instr.sliceAt, Instr.slice, run_underlying hT.h, Instr.sliceBounds, hb, run_sizeOf hs.h]
  intro _; rw [add_none]; simp
theorem x_slice_l {T E : TypeId} {s : Nat} [hT : TU P T (.slice E)] [hs : TSz P E s] {x lo : Operand} {b off len cap : Nat} {kl : IntKind} {l : Int}
    (hx : ev n env x = .slice (some ⟨b, off, none⟩) len cap) (hh : ev n env lo = .int kl l) (h0 : 0 ≤ l) (h2 : l ≤ len) (hlt : l < cap) :
    Run P n env ⟨dst, .slice T x (some lo) none none, ty, pos, aft, g⟩ w (.ok (.value (.slice (some ⟨b, off + l.toNat * s, none⟩) (len - l.toNat) (cap - l.toNat))) w) := by
  have hb : (Instr.sliceBound (.int kl l) len .sliceB).run P w = .ok l.toNat w := run_sliceBound w kl l len _ h0 h2
  have hne : cap ≠ l.toNat := by omega
  unfold Run
  simp [execOp, hx, hh, Instr.sliceAt, Instr.slice, run_underlying hT.h, Instr.sliceBounds, hb, run_sizeOf hs.h, hne, add_none]
theorem x_slice_lh {T E : TypeId} {s : Nat} [hT : TU P T (.slice E)] [hs : TSz P E s] {x lo hi : Operand} {b off len cap : Nat} {kl kh : IntKind} {l h : Int}
    (hx : ev n env x = .slice (some ⟨b, off, none⟩) len cap) (hll : ev n env lo = .int kl l) (hh : ev n env hi = .int kh h) (h0 : 0 ≤ l) (h1 : l ≤ h) (h2 : h ≤ cap) (hlt : l < cap) :
    Run P n env ⟨dst, .slice T x (some lo) (some hi) none, ty, pos, aft, g⟩ w (.ok (.value (.slice (some ⟨b, off + l.toNat * s, none⟩) (h.toNat - l.toNat) (cap - l.toNat))) w) := by
  have hb : (Instr.sliceBound (.int kh h) cap .sliceAcap).run P w = .ok h.toNat w := run_sliceBound w kh h cap _ (by omega) h2
  have hb2 : (Instr.sliceBound (.int kl l) h.toNat .sliceB).run P w = .ok l.toNat w := run_sliceBound w kl l h.toNat _ h0 (by omega)
  have hne : cap ≠ l.toNat := by omega
  unfold Run
  simp [execOp, hx, hll, hh, Instr.sliceAt, Instr.slice, run_underlying hT.h, Instr.sliceBounds, hb, hb2, run_sizeOf hs.h, hne, add_none]
/-- xs[:h] of whatever slice (nil too). -/
theorem x_slice_h' {T E : TypeId} {s : Nat} [hT : TU P T (.slice E)] [hs : TSz P E s] {x hi : Operand} {a : Option Addr} {len cap : Nat} {kh : IntKind} {h : Int}
    (hx : ev n env x = .slice a len cap) (ha : ∀ ad, a = some ad → ad.spot = none) (hh : ev n env hi = .int kh h) (h0 : 0 ≤ h) (h2 : h ≤ cap) :
    Run P n env ⟨dst, .slice T x none (some hi) none, ty, pos, aft, g⟩ w (.ok (.value (.slice a h.toNat cap)) w) := by
  have hb : (Instr.sliceBound (.int kh h) cap .sliceAcap).run P w = .ok h.toNat w := run_sliceBound w kh h cap _ h0 h2
  unfold Run
  cases a with
  | none => simp [execOp, hx, hh, Instr.sliceAt, Instr.slice, run_underlying hT.h, Instr.sliceBounds, hb, run_sizeOf hs.h]
  | some ad =>
    have hsp := ha ad rfl
    have : ad.add 0 = ad := by simp [Addr.add]
    simp [execOp, hx, hh, Instr.sliceAt, Instr.slice, run_underlying hT.h, Instr.sliceBounds, hb, run_sizeOf hs.h, this]

/-! What is made. -/
theorem madeCells_rep (z : Value) (m : Nat) : (madeCells #[z] m) = (List.replicate m z).toArray := by
  apply Array.ext
  · simp [madeCells]
  · intro i h1 h2
    simp [madeCells, Nat.mod_one]
theorem size_zero {T : TypeId} {z : Value} [hz : TZ P T z] : ∃ i, P.info? T = some i ∧ i.zero = some z := by
  have h := hz.h
  cases hq : P.info? T with
  | none => simp [hq] at h
  | some i => simp [hq] at h; exact ⟨i, rfl, h⟩
theorem info_of {T : TypeId} {z : Value} {s y : Nat} [hz : TZ P T z] [hs : TSz P T s] [hy : TBy P T y] : ∃ i, P.info? T = some i ∧ i.zero = some z ∧ i.size = s ∧ i.bytes = y := by
  obtain ⟨i, hi, h⟩ := size_zero (P := P) (T := T) (z := z)
  have h1 := hs.h; have h2 := hy.h
  simp [hi] at h1 h2
  exact ⟨i, hi, h, h1, h2⟩
/-- make([]T, l, c), T of one cell. -/
theorem AtG_make1 {f : Fm} {R : Ending → World → Prop} {k : List Item} {pre rest : List Oper} {T E : TypeId} {z : Value} {y : Nat} [hT : TU P T (.slice E)] [TZ P E z] [TSz P E 1] [TBy P E y]
    {x c : Operand} {kl kc : IntKind} {l cp : Int} (hx : ev n env x = .int kl l) (hc : ev n env c = .int kc cp) (h0 : 0 ≤ l) (h1 : l ≤ cp) (hz : one z = true) (hb : (y : Int) * cp ≤ 281474976710656) (h63 : cp ≤ 9223372036854775807)
    (h : ∀ b w', b = w.heap.size → Eff w w' b (.cells (List.replicate cp.toNat z).toArray E (0, 0)) →
      AtR P f n R (⟨dst, .makeSlice T x c, ty, pos, aft, g⟩ :: pre) rest k (updo env dst (.slice (some ⟨b, 0, none⟩) l.toNat cp.toNat)) w') :
    AtG P f n R pre ⟨dst, .makeSlice T x c, ty, pos, aft, g⟩ rest k env w := by
  obtain ⟨i, hi, hiz, hs, hy⟩ := info_of (P := P) (T := E) (z := z) (s := 1) (y := y)
  have hr := run_make (P := P) w T E i z hT.h hi hiz kl kc l cp h0 h1 (by rw [hy]; exact hb) h63
  have hcells : z.cells = #[z] := by cases z <;> simp_all [one, Value.cells]
  rw [hs, hcells, Nat.mul_one, madeCells_rep] at hr
  refine AtG_value (v := .slice (some ⟨w.heap.size, 0, none⟩) l.toNat cp.toNat) (w' := w.alloc (.cells (List.replicate cp.toNat z).toArray E)) ?_ (h _ _ rfl (eff_push w _))
  unfold Run
  simp [execOp, hx, hc, hr]

/-- []T{..} of elements of one cell, all given. -/
def slots1 : List (Nat × Operand) → Nat → Bool
  | [], _ => true
  | (i, _) :: r, j => i == j && slots1 r (j + 1)
theorem fill_one : ∀ (vs : List Value) (parts : List (Nat × Value)) (done todo : List Value), (∀ v ∈ vs, one v = true) → parts = (vs.zipIdx done.length).map (fun p => (p.2, p.1)) → todo.length = vs.length →
    Instr.fill (fun i => some (i * 1, 1)) (done ++ todo).toArray parts = some (done ++ vs).toArray
  | [], parts, done, todo, _, hp, ht => by
    subst hp
    have : todo = [] := List.eq_nil_of_length_eq_zero (by simpa using ht)
    subst this
    simp [Instr.fill]
  | v :: vs, parts, done, todo, h1, hp, ht => by
    subst hp
    cases todo with
    | nil => simp at ht
    | cons t todo =>
      have hv := h1 v (List.mem_cons_self ..)
      have hcells : v.cells = #[v] := by cases v <;> simp_all [one, Value.cells]
      have ih := fill_one vs _ (done ++ [v]) todo (fun u hu => h1 u (List.mem_cons_of_mem _ hu)) rfl (by simpa using ht)
      have e : (done ++ t :: todo).toArray.setIfInBounds done.length v = (done ++ [v] ++ todo).toArray := by
        rw [List.setIfInBounds_toArray]
        congr 1
        simp
      have hz : (#[v] : Array Value).zipIdx = #[(v, 0)] := rfl
      simp only [List.length_append, List.length_cons, List.length_nil, Nat.zero_add] at ih
      simp only [List.zipIdx_cons, List.map_cons, Instr.fill, hcells, hz]
      rw [if_neg (by simp)]
      rw [show done ++ v :: vs = done ++ [v] ++ vs by simp, ← ih, ← e]
      simp [Nat.mul_one]
theorem run_buildSlice1 {T E : TypeId} {z : Value} {len : Nat} [hT : TU P T (.slice E)] [hZ : TZ P E z] [hS : TSz P E 1]
    {ops : List Operand} {parts : List (Nat × Operand)} {vs : List Value} (hp : parts = ops.zipIdx.map (fun p => (p.2, p.1))) (hl : ops.length = len) (hlen : len ≤ 16777216) (hz : one z = true)
    (hv : ops.map (ev n env) = vs) (h1 : vs.all one = true) :
    Run P n env ⟨dst, .buildSlice T len parts.toArray, ty, pos, aft, g⟩ w (.ok (.value (.slice (some ⟨w.heap.size, 0, none⟩) len len)) { w with heap := w.heap.push (.cells vs.toArray E (0, 0)) }) := by
  have hcells : z.cells = #[z] := by cases z <;> simp_all [one, Value.cells]
  have hlv : vs.length = len := by rw [← hv]; simpa using hl
  have hf := fill_one vs ((parts.map (fun p => (p.1, ev n env p.2)))) [] (List.replicate len z) (fun v hv => (List.all_eq_true.1 h1) v hv) (by
    subst hp; subst hv
    simp [List.zipIdx_map, List.map_map, Function.comp_def]) (by simp [hlv])
  simp only [List.nil_append] at hf
  have hrep2 : Array.map (fun x => ([z] : List Value)[x % 1]?.getD default) (Array.range len) = (List.replicate len z).toArray := by
    apply Array.ext
    · simp
    · intro i _ _; simp [Nat.mod_one]
  have hf2 : Instr.fill (fun i => some (i, 1)) (Array.replicate len z) (parts.map (fun p => (p.1, ev n env p.2))) = some vs.toArray := by
    simpa only [Nat.mul_one, List.toArray_replicate] using hf
  unfold Run
  by_cases h0 : len = 0
  · subst h0
    have hvs : vs = [] := List.eq_nil_of_length_eq_zero hlv
    subst hvs
    have hops : ops = [] := List.eq_nil_of_length_eq_zero hl
    subst hops; subst hp
    simp [execOp, Instr.buildSlice, run_underlying hT.h, run_sizeOf hS.h, newRow, Instr.fill, Array.range_zero']
  · simp [execOp, Instr.buildSlice, run_underlying hT.h, run_sizeOf hS.h, run_zeroValue, hcells, newRow, h0, hrep2, hf2, show ¬ (16777216 < len) by omega]

theorem AtG_buildSlice1 {f : Fm} {R : Ending → World → Prop} {k : List Item} {pre rest : List Oper} {T E : TypeId} {z : Value} {len : Nat} [hT : TU P T (.slice E)] [hZ : TZ P E z] [hS : TSz P E 1]
    {ops : List Operand} {parts : List (Nat × Operand)} {vs : List Value} (hp : parts = ops.zipIdx.map (fun p => (p.2, p.1))) (hl : ops.length = len) (hlen : len ≤ 16777216) (hz : one z = true)
    (hv : ops.map (ev n env) = vs) (h1 : vs.all one = true)
    (h : ∀ b w', b = w.heap.size → Eff w w' b (.cells vs.toArray E (0, 0)) →
      AtR P f n R (⟨dst, .buildSlice T len parts.toArray, ty, pos, aft, g⟩ :: pre) rest k (updo env dst (.slice (some ⟨b, 0, none⟩) len len)) w') :
    AtG P f n R pre ⟨dst, .buildSlice T len parts.toArray, ty, pos, aft, g⟩ rest k env w :=
  AtG_value (run_buildSlice1 hp hl hlen hz hv h1) (h _ _ rfl (eff_push w _))

/-! append. -/
/-- A slice of its own: nil, or from the head of a block that may be written; the cells of its elements. -/
def Own (w : World) (E : TypeId) (s : Nat) (a : Option Addr) (m cap : Nat) (cs : List Value) : Prop :=
  cs.length = m * s ∧ m ≤ cap ∧ cap ≤ maxLen ∧ ((a = none ∧ cap = 0) ∨ ∃ b sp, a = some ⟨b, 0, none⟩ ∧ Blk w b E (0, 0) (cs ++ sp) ∧ (cs ++ sp).length = cap * s)
theorem Own.nil (w : World) (E : TypeId) (s : Nat) : Own w E s none 0 0 [] := ⟨by simp, Nat.le_refl _, Nat.zero_le _, .inl ⟨rfl, rfl⟩⟩
/-- Whose block it is. -/
def blkOf (a : Option Addr) : Nat → Prop := fun j => a.map (·.block) = some j
theorem Own.kp {S : Nat → Prop} {w w' : World} {E : TypeId} {s : Nat} {a : Option Addr} {m cap : Nat} {cs : List Value} (h : Own w E s a m cap cs) (hk : Kp S w w') (hb : ∀ j, blkOf a j → ¬ S j) : Own w' E s a m cap cs := by
  obtain ⟨h1, h2, h3, h4⟩ := h
  refine ⟨h1, h2, h3, h4.imp id ?_⟩
  rintro ⟨b, sp, rfl, hB, hl⟩
  exact ⟨b, sp, rfl, hB.kp hk (hb b rfl), hl⟩
theorem Own.lt {w : World} {E : TypeId} {s : Nat} {a : Option Addr} {m cap : Nat} {cs : List Value} (h : Own w E s a m cap cs) : ∀ j, blkOf a j → j < w.heap.size := by
  obtain ⟨h1, h2, h3, h4⟩ := h
  rcases h4 with ⟨rfl, _⟩ | ⟨b, sp, rfl, hB, hl⟩
  · intro j hj; simp [blkOf] at hj
  · intro j hj; simp [blkOf] at hj; subst hj; exact hB.lt
theorem run_append_own' {T tx E : TypeId} {z : Value} {s y : Nat} [hT : TU P T (.slice E)] [TZ P E z] [TSz P E s] [TBy P E y] (hz : z.cells.size = s) (hs : 0 < s)
    {a : Option Addr} {m cap : Nat} {cs : List Value} (ho : Own w E s a m cap cs) {x : Value} {j : Nat} {news : List Value} (hx : Src P s tx x j news w)
    (h63 : m + j ≤ maxLen) (hby : (m + j) * y ≤ 140737488355328) :
    ∃ a' cap' w', (Builtin.append_ #[T, tx] ty #[.slice a m cap, x]).run P w = .ok (.slice a' (m + j) cap') w' ∧ Own w' E s a' (m + j) cap' (cs ++ news) ∧ Kp (blkOf a) w w' ∧
      (a' = a ∨ ∃ b, a' = some ⟨b, 0, none⟩ ∧ w.heap.size ≤ b) := by
  obtain ⟨i, hi, hiz, hsz, hby'⟩ := info_of (P := P) (T := E) (z := z) (s := s) (y := y)
  subst hsz; subst hby'
  obtain ⟨h1, h2, h3, h4⟩ := ho
  have hlen : (cs ++ news).length = (m + j) * i.size := by rw [List.length_append, h1, hx.newsLen, Nat.add_mul]
  have h63' : ((m + j : Nat) : Int) ≤ 9223372036854775807 := by simp only [maxLen] at h63; omega
  by_cases hroom : m + j ≤ cap
  · rcases h4 with ⟨rfl, rfl⟩ | ⟨b, sp, rfl, hB, hl⟩
    · have hm : m = 0 := by omega
      have hj : j = 0 := by omega
      subst hm; subst hj
      have hc : cs = [] := List.eq_nil_of_length_eq_zero (by simpa using h1)
      have hn : news = [] := List.eq_nil_of_length_eq_zero (by simpa using hx.newsLen)
      subst hc; subst hn
      refine ⟨none, 0, w, ?_, Own.nil w E i.size, Kp.refl _ w, .inl rfl⟩
      rcases hx.kind with ⟨e', hk⟩ | hk <;> simp [Builtin.append_, run_underlying hT.h, run_underlying hk, sizeOf, typeInfo, hi, hx.len, hx.cells]
    · have hfit : m * i.size + news.length ≤ (cs ++ sp).length := by rw [hl, hx.newsLen, ← Nat.add_mul]; exact Nat.mul_le_mul_right _ hroom
      obtain ⟨w', hr, hw⟩ := run_storeCells_eff (P := P) (b := b) (off := m * i.size) (E := E) news 0 (cs ++ sp) w hB (by simpa using hfit) hx.one
      have hlay : lay (cs ++ sp) (m * i.size + 0) news = (cs ++ news) ++ sp.drop news.length := by
        simp only [lay, Nat.add_zero, ← h1]
        rw [List.take_left, List.drop_append]
        simp [List.drop_eq_nil_of_le]
      rw [hlay] at hw
      refine ⟨some ⟨b, 0, none⟩, cap, w', ?_, ⟨hlen, hroom, h3, .inr ⟨b, sp.drop news.length, rfl, hw.blk, ?_⟩⟩, hw.kp (.inl rfl), .inl rfl⟩
      · rcases hx.kind with ⟨e', hk⟩ | hk <;> simp [Builtin.append_, run_underlying hT.h, run_underlying hk, sizeOf, typeInfo, hi, hx.len, hroom, hx.cells, add_none, hr]
      · simp only [List.length_append, List.length_drop] at hl hfit ⊢; omega
  · have hgrow : ∀ base : Option Addr, (Builtin.firstCells i.size m (.slice base m cap)).run P w.drew = .ok cs.toArray w.drew →
        ∃ cap' w', (Builtin.append_ #[T, tx] ty #[.slice base m cap, x]).run P w = .ok (.slice (some ⟨w.heap.size, 0, none⟩) (m + j) cap') w' ∧ Own w' E i.size (some ⟨w.heap.size, 0, none⟩) (m + j) cap' (cs ++ news) ∧
          ∀ S, Kp S w w' := by
      intro base hold
      have hr := run_append_grow_src (P := P) w T tx ty E i z hT.h hi hiz base m cap cs hold x j news hx (by omega) h63' (growslice_fits (by omega) hby)
      have hge := grownCap_ge w (m + j) cap E
      refine ⟨_, _, hr, ⟨hlen, hge, grownCap_le_maxLen w (m + j) cap E h63, .inr ⟨_, (Builtin.zeroCells z.cells (grownCap w (m + j) cap E - (m + j))).toList, rfl, ?_, ?_⟩⟩, fun S => ?_⟩
      · have h := (eff_push w.drew (.cells ((cs ++ news).toArray ++ Builtin.zeroCells z.cells (grownCap w (m + j) cap E - (m + j))) E)).here
        unfold Blk
        rw [show ((cs ++ news) ++ (Builtin.zeroCells z.cells (grownCap w (m + j) cap E - (m + j))).toList).toArray = (cs ++ news).toArray ++ Builtin.zeroCells z.cells (grownCap w (m + j) cap E - (m + j)) by
          apply Array.ext'; simp]
        exact h
      · rw [List.length_append, hlen, Array.length_toList, size_zeroCells, hz, ← Nat.add_mul]; congr 1; omega
      · have e := eff_push w.drew (.cells ((cs ++ news).toArray ++ Builtin.zeroCells z.cells (grownCap w (m + j) cap E - (m + j))) E)
        exact ⟨e.os, e.tape, e.output, e.size, fun j _ hl => e.other j (Nat.ne_of_lt hl) hl⟩
    rcases h4 with ⟨rfl, rfl⟩ | ⟨b, sp, rfl, hB, hl⟩
    · have hm : m = 0 := by omega
      subst hm
      have hc : cs = [] := List.eq_nil_of_length_eq_zero (by simpa using h1)
      subst hc
      obtain ⟨cap', w', hr, ho, hk⟩ := hgrow none (by simp [Builtin.firstCells])
      exact ⟨_, cap', w', hr, ho, hk _, .inr ⟨_, rfl, Nat.le_refl _⟩⟩
    · have hcells : ∀ j u, cs[j]? = some u → w.drew.cell? ((⟨b, 0, none⟩ : Addr).add j) = some u := fun j u hj => by
        have hlt : j < cs.length := (List.getElem?_eq_some_iff.1 hj).1
        rw [add_none, Nat.zero_add]
        show w.cell? ⟨b, j, none⟩ = some u
        rw [hB.cell, List.getElem?_append_left hlt, hj]
      obtain ⟨cap', w', hr, ho, hk⟩ := hgrow (some ⟨b, 0, none⟩) (run_firstCells_some w.drew i.size m ⟨b, 0, none⟩ m cap cs h1 hcells)
      exact ⟨_, cap', w', hr, ho, hk _, .inr ⟨_, rfl, Nat.le_refl _⟩⟩
theorem AtG_append {f : Fm} {R : Ending → World → Prop} {k : List Item} {pre rest : List Oper} {T tx E : TypeId} {z : Value} {s y : Nat} [hT : TU P T (.slice E)] [TZ P E z] [TSz P E s] [TBy P E y]
    {xd xs : Operand} {a : Option Addr} {m cap : Nat} {cs : List Value} {x : Value} {j : Nat} {news : List Value} (hd : ev n env xd = .slice a m cap) (hv : ev n env xs = x)
    (ho : Own w E s a m cap cs) (hx : Src P s tx x j news w) (hz : z.cells.size = s) (hs : 0 < s)
    (h63 : m + j ≤ maxLen) (hby : (m + j) * y ≤ 140737488355328)
    (h : ∀ a' cap' w', Own w' E s a' (m + j) cap' (cs ++ news) → Kp (blkOf a) w w' → (a' = a ∨ ∃ b, a' = some ⟨b, 0, none⟩ ∧ w.heap.size ≤ b) →
      AtR P f n R (⟨dst, .call ⟨.builtin .append, #[xd, xs], #[T, tx]⟩, ty, pos, aft, g⟩ :: pre) rest k (updo env dst (.slice a' (m + j) cap')) w') :
    AtG P f n R pre ⟨dst, .call ⟨.builtin .append, #[xd, xs], #[T, tx]⟩, ty, pos, aft, g⟩ rest k env w := by
  obtain ⟨a', cap', w', hr, h1, h2, h3⟩ := run_append_own' (P := P) (ty := ty) (T := T) (tx := tx) hz hs ho hx h63 hby
  refine AtG_value (w' := w') ?_ (h a' cap' w' h1 h2 h3)
  unfold Run
  simp [execOp, resolve, invoke, builtin, hd, hv, hr]
end
end Go.Kx
