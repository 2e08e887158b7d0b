/- Parts of slices of cells, appended noughts, overlaps. Own work; nothing of a program is named here. -/
import Derived.Test.YtgobmphkakmdmaaDoorKv
import Derived.Lib.AppendZerosOnto
set_option linter.unusedVariables false
namespace Go.Kx
open Go
section
variable {P : Program} {n : Nat} {env : Env} {w : World} {dst : Option Tmp} {ty : TypeId} {pos : String} {aft : Array Edge} {g : Option (Nat × Bool)}
theorem Own.take {E : TypeId} {a : Option Addr} {m cap i : Nat} {cs : List Value} (h : Own w E 1 a m cap cs) (hi : i ≤ m) : Own w E 1 a i cap (cs.take i) := by
  obtain ⟨h1, h2, h3, h4⟩ := h
  refine ⟨by simp; omega, by omega, h3, h4.imp id ?_⟩
  rintro ⟨b, sp, rfl, hB, hl⟩
  have e : cs.take i ++ (cs.drop i ++ sp) = cs ++ sp := by rw [← List.append_assoc, List.take_append_drop]
  exact ⟨b, cs.drop i ++ sp, rfl, by rw [e]; exact hB, by rw [e]; exact hl⟩
theorem Own.some_of {E : TypeId} {a : Option Addr} {m cap : Nat} {cs : List Value} (h : Own w E 1 a m cap cs) (h0 : 0 < cap) : ∃ b sp, a = some ⟨b, 0, none⟩ ∧ Blk w b E (0, 0) (cs ++ sp) ∧ (cs ++ sp).length = cap ∧ cs.length = m := by
  obtain ⟨h1, h2, h3, h4⟩ := h
  rcases h4 with ⟨_, h⟩ | ⟨b, sp, e, hB, hl⟩
  · omega
  · exact ⟨b, sp, e, hB, by omega, by omega⟩
theorem Own.spot {E : TypeId} {a : Option Addr} {m cap : Nat} {cs : List Value} (h : Own w E 1 a m cap cs) : ∀ ad, a = some ad → ad.spot = none := by
  obtain ⟨_, _, _, h4⟩ := h
  rcases h4 with ⟨rfl, _⟩ | ⟨b, sp, rfl, _, _⟩
  · intro ad h; cases h
  · intro ad h; cases h; rfl
/-- s[l:] of whatever slice. -/
theorem x_slice_from {T E : TypeId} {s : Nat} [hT : TU P T (.slice E)] [hs : TSz P E s] {x lo : Operand} {a : Option Addr} {len cap l : Nat} {kl : IntKind} (hx : ev n env x = .slice a len cap) (ha : ∀ ad, a = some ad → ad.spot = none)
    (hh : ev n env lo = .int kl (l : Int)) (h : l ≤ len) (hc : len ≤ cap) :
    ∃ a', Run P n env ⟨dst, .slice T x (some lo) none none, ty, pos, aft, g⟩ w (.ok (.value (.slice a' (len - l) (cap - l))) w) := by
  have hb : (Instr.sliceBound (.int kl (l : Int)) len .sliceB).run P w = .ok l w := by
    have := run_sliceBound (P := P) (w := w) kl (l : Int) len .sliceB (by omega) (by omega)
    simpa using this
  unfold Run
  cases a with
  | none => exact ⟨none, by simp [execOp, hx, hh, Instr.sliceAt, Instr.slice, run_underlying hT.h, Instr.sliceBounds, hb, run_sizeOf hs.h]⟩
  | some ad =>
    by_cases hlc : cap = l
    · exact ⟨some ad, by simp [execOp, hx, hh, Instr.sliceAt, Instr.slice, run_underlying hT.h, Instr.sliceBounds, hb, run_sizeOf hs.h, hlc]⟩
    · exact ⟨some (ad.add (l * s)), by simp [execOp, hx, hh, Instr.sliceAt, Instr.slice, run_underlying hT.h, Instr.sliceBounds, hb, run_sizeOf hs.h, hlc]⟩
theorem r_slice_from {T E : TypeId} {s : Nat} [hT : TU P T (.slice E)] [hs : TSz P E s] {x lo : Operand} {a : Option Addr} {len cap l : Nat} {kl : IntKind} (hx : ev n env x = .slice a len cap) (ha : ∀ ad, a = some ad → ad.spot = none)
    (hh : ev n env lo = .int kl (l : Int)) (h : l ≤ len) (hc : len ≤ cap) :
    ∃ v w', Run P n env ⟨dst, .slice T x (some lo) none none, ty, pos, aft, g⟩ w (.ok (.value v) w') ∧ w = w' ∧ ∃ a', v = .slice a' (len - l) (cap - l) := by
  obtain ⟨a', hr⟩ := x_slice_from (P := P) (w := w) (dst := dst) (ty := ty) (pos := pos) (aft := aft) (g := g) (T := T) hx ha hh h hc
  exact ⟨_, _, hr, rfl, a', rfl⟩
theorem x_slice_fromN {T E : TypeId} [hT : TU P T (.slice E)] [hs : TSz P E 1] {x lo : Operand} {b off len cap l : Nat} {kl : IntKind} (hx : ev n env x = .slice (some ⟨b, off, none⟩) len cap)
    (hh : ev n env lo = .int kl (l : Int)) (h : l ≤ len) (hlt : l < cap) :
    Run P n env ⟨dst, .slice T x (some lo) none none, ty, pos, aft, g⟩ w (.ok (.value (.slice (some ⟨b, off + l, none⟩) (len - l) (cap - l))) w) := by
  have := x_slice_l (P := P) (w := w) (dst := dst) (ty := ty) (pos := pos) (aft := aft) (g := g) (T := T) hx hh (by omega) (by omega) (by omega)
  simpa using this
theorem zeroCells_one' (z : Value) (m : Nat) : Builtin.zeroCells #[z] m = (List.replicate m z).toArray := by
  apply Array.ext
  · simp [Builtin.zeroCells]
  · intro i h1 h2
    simp [Builtin.zeroCells, Nat.mod_one]
/-- append(s, make(.., k)...) where there is no room. -/
theorem r_append_zeros {T tn E : TypeId} {z : Value} {y : Nat} {kn : IntKind} [hT : TU P T (.slice E)] [hN : TU P tn (.int kn)] [TZ P E z] [TSz P E 1] [TBy P E y] {xd xs : Operand} {ki : IntKind} {a : Option Addr} {m cap k : Nat} {cs : List Value}
    (hd : ev n env xd = .slice a m cap) (hx : ev n env xs = .int ki (k : Int)) (ho : Own w E 1 a m cap cs) (hz : one z = true) (h0 : 0 < k) (hroom : cap < m + k) (h63 : m + k ≤ maxLen) (hby : (m + k) * y ≤ 140737488355328) :
    ∃ v w', Run P n env ⟨dst, .call ⟨.builtin .append, #[xd, xs], #[T, tn]⟩, ty, pos, aft, g⟩ w (.ok (.value v) w') ∧
      ∃ b cap', v = .slice (some ⟨b, 0, none⟩) (m + k) cap' ∧ b = w.heap.size ∧ Own w' E 1 (some ⟨b, 0, none⟩) (m + k) cap' (cs ++ List.replicate k z) ∧ Kp No w w' := by
  obtain ⟨i, hi, hiz, hsz, hby'⟩ := info_of (P := P) (T := E) (z := z) (s := 1) (y := y)
  subst hby'
  have hzc : z.cells = #[z] := by cases z <;> simp_all [one, Value.cells]
  obtain ⟨g1, g2, g3, g4⟩ := ho
  have hold : (Builtin.firstCells i.size m (.slice a m cap)).run P w.drew = .ok cs.toArray w.drew := by
    rw [hsz]
    rcases g4 with ⟨rfl, rfl⟩ | ⟨b, sp, rfl, hB, hl⟩
    · have hm : m = 0 := by omega
      subst hm
      have hc : cs = [] := List.eq_nil_of_length_eq_zero (by simpa using g1)
      subst hc
      exact run_firstCells_none w.drew 1 0 0 0
    · refine run_firstCells_some w.drew 1 m ⟨b, 0, none⟩ m cap cs (by omega) (fun j u hj => ?_)
      have hlt : j < cs.length := (List.getElem?_eq_some_iff.1 hj).1
      rw [add_none, Nat.zero_add]
      show w.cell? ⟨b, j, none⟩ = some u
      rw [hB.cell, List.getElem?_append_left hlt, hj]
  have hle : k * i.bytes ≤ (m + k) * i.bytes := Nat.mul_le_mul_right _ (by omega)
  have hr := Lib.run_append_grow_zeros (P := P) w T tn ty E i z ki kn hT.h hN.h hi hiz a m cap cs hold k h0 (by omega) hroom (by simp only [maxLen] at h63; omega) (by omega) (growslice_fits (by omega) hby)
  rw [hzc, zeroCells_one', zeroCells_one'] at hr
  have hge := grownCap_ge w (m + k) cap E
  have e := eff_push w.drew (.cells (cs.toArray ++ (List.replicate k z).toArray ++ (List.replicate (grownCap w (m + k) cap E - (m + k)) z).toArray) E)
  refine ⟨_, _, ?_, w.heap.size, grownCap w (m + k) cap E, rfl, rfl, ⟨by simp; omega, hge, grownCap_le_maxLen w (m + k) cap E h63, .inr ⟨_, List.replicate (grownCap w (m + k) cap E - (m + k)) z, rfl, ?_, by simp; omega⟩⟩, ⟨e.os, e.tape, e.output, e.size, fun j _ hl => e.other j (Nat.ne_of_lt hl) hl⟩⟩
  · unfold Run
    simp only [execOp, resolve, invoke, builtin, hd, hx, List.map_toArray, List.map_cons, List.map_nil, Sem.run_bind, Sem.run_pure, Result.andThen_ok, hr]
    rfl
  · have h1 := e.here
    unfold Blk
    rw [show (cs ++ List.replicate k z ++ List.replicate (grownCap w (m + k) cap E - (m + k)) z).toArray = cs.toArray ++ (List.replicate k z).toArray ++ (List.replicate (grownCap w (m + k) cap E - (m + k)) z).toArray by simp]
    exact h1
/-- The cells of a block, as what is appended. -/
theorem Blk.src {T E B : TypeId} {b len cap : Nat} {fz : Nat × Nat} {cs : List Value} (hB : Blk w b B fz cs) (hT : P.underlying T = some (.slice E)) (hl : cs.length = len) (h1 : cs.all (·.oneCell') = true) : Src P 1 T (.slice (some ⟨b, 0, none⟩) len cap) len cs w :=
  Src.ofSlice w hT ⟨b, 0, none⟩ len cap cs (by omega) (fun j u hj => by rw [add_none, Nat.zero_add, hB.cell, hj]) (fun u hu => (List.all_eq_true.1 h1) u hu)
theorem run_overlaps_no {T R E A B : TypeId} {s b b' off la ca lb cb : Nat} {cs cs' : List Value} [hT : TU P T (.slice E)] [hs : TSz P E s] (hA : Blk w b A (0, 0) cs) (hB : Blk w b' B (0, 0) cs') (hne : b ≠ b') (h0 : 0 < cs'.length) :
    (Extern.SlicesOverlaps.overlaps #[T, T] #[R] [Value.slice (some ⟨b, 0, none⟩) la ca, .slice (some ⟨b', off, none⟩) lb cb].toArray).run P w = .ok (.bool false) w := by
  unfold Blk at hA hB
  refine Lib.run_overlaps_apart w T R E hT.h s (fun w => run_sizeOf hs.h) ⟨b, 0, none⟩ ⟨b', off, none⟩ la ca lb cb hne A B cs.length cs'.length ?_ ?_ (by omega) ?_ ?_
  · simp [World.shape?, hA]
  · simp [World.shape?, hB]
  · simp [World.frozen?, hA]
  · simp [World.frozen?, hA]
theorem lay_take {cs : List Value} {o : Nat} {vs : List Value} (h : o ≤ cs.length) : (lay cs o vs).take o = cs.take o := by
  unfold lay
  rw [List.append_assoc, List.take_append_of_le_length (by simp; omega), List.take_take, Nat.min_self]
/-- One more at i: what stands behind it moved, then it laid. -/
theorem lay_insert {cs sp : List Value} {i : Nat} {x : Value} (hi : i < cs.length) (h0 : 0 < sp.length) : lay (lay (cs ++ sp) (i + 1) (cs.drop i)) i [x] = (cs.take i ++ x :: cs.drop i) ++ sp.drop 1 := by
  unfold lay
  have e1 : i + 1 + (cs.drop i).length = cs.length + 1 := by simp; omega
  have e2 : (cs ++ sp).drop (cs.length + 1) = sp.drop 1 := by rw [List.drop_append, List.drop_eq_nil_of_le (by omega), List.nil_append]; congr 1; omega
  have e3 : ((cs ++ sp).take (i + 1)).length = i + 1 := by simp; omega
  rw [e1, e2]
  have e4 : ((cs ++ sp).take (i + 1) ++ cs.drop i ++ sp.drop 1).take i = cs.take i := by
    rw [List.append_assoc, List.take_append_of_le_length (by omega), List.take_take, Nat.min_eq_left (by omega), List.take_append_of_le_length (by omega)]
  have e5 : ((cs ++ sp).take (i + 1) ++ cs.drop i ++ sp.drop 1).drop (i + [x].length) = cs.drop i ++ sp.drop 1 := by
    rw [List.append_assoc, show i + [x].length = ((cs ++ sp).take (i + 1)).length by rw [e3]; rfl, List.drop_left]
  rw [e4, e5]
  simp
theorem lay_insert2 {cs sp : List Value} {z x : Value} {i k : Nat} (hi : i ≤ cs.length) (hk : k = cs.length - i) : lay (lay (cs.take i ++ List.replicate (k + 1) z ++ sp) i [x]) (i + 1) (cs.drop i) = (cs.take i ++ x :: cs.drop i) ++ sp := by
  subst hk
  have l1 : (cs.take i).length = i := by simp; omega
  have e1 : lay (cs.take i ++ List.replicate (cs.length - i + 1) z ++ sp) i [x] = cs.take i ++ x :: (List.replicate (cs.length - i) z ++ sp) := by
    have e0 : cs.take i ++ List.replicate (cs.length - i + 1) z ++ sp = cs.take i ++ (z :: (List.replicate (cs.length - i) z ++ sp)) := by simp [List.replicate_succ]
    rw [e0]
    unfold lay
    rw [List.take_append_of_le_length (by omega), List.take_of_length_le (by omega)]
    rw [show i + [x].length = (cs.take i ++ [z]).length by simp; omega, show cs.take i ++ (z :: (List.replicate (cs.length - i) z ++ sp)) = (cs.take i ++ [z]) ++ (List.replicate (cs.length - i) z ++ sp) by simp, List.drop_left]
    simp
  rw [e1]
  unfold lay
  have l2 : (cs.take i ++ [x]).length = i + 1 := by simp; omega
  rw [show cs.take i ++ x :: (List.replicate (cs.length - i) z ++ sp) = (cs.take i ++ [x]) ++ (List.replicate (cs.length - i) z ++ sp) by simp]
  rw [List.take_append_of_le_length (by omega), List.take_of_length_le (by omega)]
  rw [show i + 1 + (cs.drop i).length = (cs.take i ++ [x]).length + (List.replicate (cs.length - i) z).length by rw [l2]; simp]
  rw [← List.drop_drop, List.drop_left, List.drop_left]
  simp
end
end Go.Kx
