/- A ring of keys in memory; where an identifier is. | Where an identifier is in a ring: the search. | A ring's find, of, Status. | slices.Insert of one pointer into a ring's row. | slices.DeleteFunc of one pointer of a ring's row. -/
import Derived.Test.YtfngacepjcdlnaaDoorMHa
import Derived.Test.YtfngacepjcdlnaaDoorMKb
import Derived.Test.YtfngacepjcdlnaaDoorMHb
import Derived.LaidEql
set_option linter.unusedVariables false
namespace Go.Proofs.YtfngacepjcdlnaaDoor
open Go Go.Kx Go.Kr
instance : TX Tryd.prog 118 Extern.BytealgCompare.compare := ⟨_, Tryd.func118, by kernel_rfl, by kernel_rfl, by kernel_rfl, by kernel_rfl⟩
/-- An entry, and where it lies. -/
structure En where
  p : Nat
  ka : Option Addr
  kc : Nat
  e : Ent
instance : Inhabited En := ⟨⟨0, none, 0, default⟩⟩
def enCells (x : En) : List Value := ints .u8 (bs8 x.e.id) ++ [.slice x.ka x.e.key.length x.kc, .int .i64 (x.e.holds : Int)]
structure EnAt (w : World) (x : En) : Prop where
  row : Blk w x.p 137 (0, 0) (enCells x)
  key : Own w 5 1 x.ka x.e.key.length x.kc (ints .u8 (bs8 x.e.key))
  id : x.e.id.length = 16
  few : x.e.holds ≤ 1000000
def ptrE (x : En) : Value := .pointer (some ⟨x.p, 0, none⟩)
def apart (x y : En) : Prop := x.p ≠ y.p ∧ ∀ b, blkOf x.ka b → ¬ blkOf y.ka b
theorem apart_symm {x y : En} (h : apart x y) : apart y x := ⟨h.1.symm, fun b hb hc => h.2 b hc hb⟩
def ents (xs : List En) : Ring := xs.map (·.e)
@[simp] theorem ents_length (xs : List En) : (ents xs).length = xs.length := by simp [ents]
/-- A ring; D holds of all of its blocks. -/
structure RingAt (w : World) (r bo : Nat) (xs : List En) (D : Nat → Prop) : Prop where
  es : ∃ a cap, Blk w r 125 (0, 0) [.pointer (some ⟨bo, 0, none⟩), .slice a xs.length cap] ∧ Own w 135 1 a xs.length cap (xs.map ptrE) ∧ ∀ j, blkOf a j → D j
  ob : Blk w bo 129 (0, 0) z129
  con : ∃ fz, Blk w 1 243 fz (ints .u64 (ws kSha))
  nob : ¬ D bo
  ncon : ¬ D 1
  dr : D r
  en : ∀ x ∈ xs, EnAt w x ∧ D x.p ∧ ∀ b, blkOf x.ka b → D b
  ap : xs.Pairwise apart
  few : xs.length ≤ 16
  dlt : ∀ j, D j → j < w.heap.size
theorem EnAt.kp {S : Nat → Prop} {w w' : World} {x : En} (h : EnAt w x) (hk : Kp S w w') (h1 : ¬ S x.p) (h2 : ∀ b, blkOf x.ka b → ¬ S b) : EnAt w' x := ⟨h.row.kp hk h1, h.key.kp hk h2, h.id, h.few⟩
theorem EnAt.kpn {w w' : World} {x : En} (h : EnAt w x) (hk : Kp No w w') : EnAt w' x := h.kp hk (fun h => h) fun _ _ h => h
theorem RingAt.kp {S D : Nat → Prop} {w w' : World} {r bo : Nat} {xs : List En} (h : RingAt w r bo xs D) (hk : Kp S w w') (hS : ∀ j, S j → ¬ D j ∧ j ≠ bo ∧ j ≠ 1) : RingAt w' r bo xs D := by
  have hD : ∀ j, D j → ¬ S j := fun j hd hs => (hS j hs).1 hd
  obtain ⟨a, cap, h1, h2, h3⟩ := h.es
  obtain ⟨fz, hc⟩ := h.con
  refine ⟨⟨a, cap, h1.kp hk (hD r h.dr), h2.kp hk fun j hj => hD j (h3 j hj), h3⟩, h.ob.kp hk fun hs => (hS _ hs).2.1 rfl, ⟨fz, hc.kp hk fun hs => (hS _ hs).2.2 rfl⟩, h.nob, h.ncon, h.dr, fun x hx => ?_, h.ap, h.few, fun j hj => Nat.lt_of_lt_of_le (h.dlt j hj) hk.size⟩
  obtain ⟨g1, g2, g3⟩ := h.en x hx
  exact ⟨g1.kp hk (hD _ g2) fun b hb => hD b (g3 b hb), g2, g3⟩
theorem RingAt.kpn {D : Nat → Prop} {w w' : World} {r bo : Nat} {xs : List En} (h : RingAt w r bo xs D) (hk : Kp No w w') : RingAt w' r bo xs D := h.kp hk fun _ hs => hs.elim
theorem RingAt.mono {D D' : Nat → Prop} {w : World} {r bo : Nat} {xs : List En} (h : RingAt w r bo xs D) (hD : ∀ j, j < w.heap.size → D j → D' j) (hb : ¬ D' bo) (h1 : ¬ D' 1) (hlt : ∀ j, D' j → j < w.heap.size) : RingAt w r bo xs D' := by
  obtain ⟨a, cap, g1, g2, g3⟩ := h.es
  refine ⟨⟨a, cap, g1, g2, fun j hj => hD j (g2.lt j hj) (g3 j hj)⟩, h.ob, h.con, hb, h1, hD _ g1.lt h.dr, fun x hx => ?_, h.ap, h.few, hlt⟩
  obtain ⟨q1, q2, q3⟩ := h.en x hx
  exact ⟨q1, hD _ q1.row.lt q2, fun b hb => hD b (q1.key.lt b hb) (q3 b hb)⟩
/-- The octets of an identifier. -/
theorem en_id {w : World} {x : En} (h : EnAt w x) : Seg w x.p 0 (ints .u8 (bs8 x.e.id)) := fun j hj => by
  rw [Nat.zero_add, h.row.cell, enCells, List.getElem?_append_left hj]
theorem getD_map_ptr {xs : List En} {i : Nat} (h : i < xs.length) : (xs.map ptrE)[i]? = some (ptrE (xs.getD i default)) := by simp [List.getD, h]
theorem own_seg {w : World} {E : TypeId} {b m cap : Nat} {cs : List Value} (h : Own w E 1 (some ⟨b, 0, none⟩) m cap cs) : Seg w b 0 cs := by
  obtain ⟨h1, h2, h3, h4⟩ := h
  rcases h4 with ⟨h, _⟩ | ⟨b', sp, e, hB, hl⟩
  · cases h
  · cases e
    intro j hj
    rw [Nat.zero_add, hB.cell, List.getElem?_append_left hj]
theorem x_load_ptr {n : Nat} {env : Env} {w : World} {dst : Option Tmp} {ty : TypeId} {pos : String} {aft : Array Edge} {g : Option (Nat × Bool)} {x : Operand} {b i : Nat} {xs : List En} (hx : ev n env x = .pointer (some ⟨b, 0 + i, none⟩))
    (hs : Seg w b 0 (xs.map ptrE)) (hi : i < xs.length) : Run Tryd.prog n env ⟨dst, .load 135 x, ty, pos, aft, g⟩ w (.ok (.value (.pointer (some ⟨(xs.getD i default).p, 0, none⟩))) w) :=
  x_load_seg hx hs (getD_map_ptr hi)
theorem ents_get {xs : List En} {i : Nat} (h : i < xs.length) : (ents xs)[i]? = some (xs.getD i default).e := by simp [ents, List.getD, h]
theorem ents_get' {xs : List En} {i : Nat} (h : i < (ents xs).length) : (ents xs)[i] = (xs.getD i default).e := by
  exact Option.some.inj ((List.getElem?_eq_getElem h).symm.trans (ents_get (xs := xs) (i := i) (by simpa using h)))
theorem mem_getD {xs : List En} {i : Nat} (h : i < xs.length) : xs.getD i default ∈ xs := by simp [List.getD, h]
theorem bytesCompare_calls (l l' : List UInt8) (a : Option Addr) (len cap : Nat) (a' : Option Addr) (len' cap' : Nat) (w : World) {D D' : Nat → Prop} (hs : SlE w .u8 a len cap (bs8 l) D) (hs' : SlE w .u8 a' len' cap' (bs8 l') D') :
    Calls Tryd.prog 102 #[.slice a len cap, .slice a' len' cap'] w fun e w' => e = .returned (.int .i64 (Lib.compareBytes l l')) ∧ w' = w := by
  refine calls_at (n := 8) Tryd.func102 rfl rfl (by simp) ?_
  (refine At_seq ?_; refine At_region ?_; refine s_as ?_; refine AtR_nil ?_; refine At_seq ?_; refine At_region ?_; refine s_mv ?_; refine s_mv ?_)
  refine s_val (x_callX rfl (run_compare hs hs')) ?_
  (refine s_as ?_; refine AtR_nil ?_)
  refine At_ret1 Tryd.func102 rfl (by conv => lhs; whnf) ?_
  exact ⟨rfl, rfl⟩
set_option maxRecDepth 100000 in
/-- The comparison that find makes. -/
theorem cmp_calls (x : En) (id : List UInt8) (w : World) (h : EnAt w x) (hi : id.length = 16) :
    Calls Tryd.prog 101 #[.pointer (some ⟨x.p, 0, none⟩), .agg (ints .u8 (bs8 id)).toArray] w fun e w' => e = .returned (.int .i64 (Lib.compareBytes x.e.id id)) ∧ Kp No w w' := by
  refine calls_at (n := 11) Tryd.func101 rfl rfl (by simp) ?_
  (refine At_seq ?_; refine At_region ?_)
  refine AtR_go rfl (AtG_box rfl fun b w1 hb e1 => ?_)
  have B1 : Blk w1 b 22 (0, 0) (ints .u8 (bs8 id)) := e1.blk
  have K1 : Kp No w w1 := e1.kp (.inr (by omega))
  clear e1
  have h1 := h.kpn K1
  (refine s_as ?_; refine AtR_nil ?_; refine At_seq ?_)
  have kd := Kp.drew (S := No) (w := w1)
  refine At_draw (fun _ => True) rfl ?_
  have hS : True := trivial
  (apply AtH_take 0 rfl (by decide +kernel) (by exact rfl); (focus (intro wx hx; skip; exact x_move (by conv => lhs; whnf))); (focus (exact hS)))
  (apply AtH_take 1 rfl (by decide +kernel) (by exact rfl); (focus (intro wx hx; skip; exact x_nilCheck rfl)); (focus (exact hS)))
  (apply AtH_take 2 rfl (by decide +kernel) (by exact rfl); (focus (intro wx hx; skip; exact x_fieldAddrN rfl (by first | exact Nat.zero_add _ | exact Nat.add_zero _ | (simp only [Nat.reduceAdd] <;> rfl) | exact rfl))); (focus (exact hS)))
  (apply AtH_take 3 rfl (by decide +kernel) (by exact rfl); (focus (intro wx hx; skip; exact x_slice_arr rfl)); (focus (exact hS)))
  (apply AtH_take 4 rfl (by decide +kernel) (by exact rfl); (focus (intro wx hx; skip; exact x_slice_arr rfl)); (focus (exact hS)))
  -- ready now: 5 call f102(t8, t9)
  have h2 := h1.kpn kd
  have B2 := B1.kp kd fun h => h
  have hsl : Sl w1.drew .u8 (some ⟨x.p, 0, none⟩) 16 16 (bs8 x.e.id) := ⟨by simp [h2.id], Nat.le_refl _, by omega, .inr ⟨x.p, 0, rfl, h2.row.lt, en_id h2⟩⟩
  refine AtH_call 5 rfl (by decide +kernel) (by exact rfl) x_call  (bytesCompare_calls x.e.id id _ _ _ _ _ _ _ (D := fun _ => True) (D' := fun _ => True) (hsl.e fun _ _ => trivial) ((B2.sl (m := 16) (by simp [hi]) (by omega)).e fun _ _ => trivial)) ?_
  rintro _ _ ⟨rfl, rfl⟩
  refine ⟨_, rfl, hS, ?_⟩
  (apply AtH_take 6 rfl (by decide +kernel) (by exact rfl); (focus (intro wx hx; skip; exact x_assign (by conv => lhs; whnf))); (focus (exact hS)))
  refine AtH_done (by decide +kernel) ?_
  skip
  refine At_ret1 Tryd.func101 rfl (by conv => lhs; whnf) ?_
  exact ⟨rfl, K1.trans kd⟩
theorem en16 {w : World} {x : En} (h : EnAt w x) : (enCells x)[16]? = some (.slice x.ka x.e.key.length x.kc) := by
  unfold enCells
  rw [List.getElem?_append_right (by simp [h.id])]
  simp [h.id]
theorem en17 {w : World} {x : En} (h : EnAt w x) : (enCells x)[17]? = some (.int .i64 (x.e.holds : Int)) := by
  unfold enCells
  rw [List.getElem?_append_right (by simp [h.id])]
  simp [h.id]
theorem en_len {w : World} {x : En} (h : EnAt w x) : (enCells x).length = 18 := by simp [enCells, h.id]
theorem en_set16 {w : World} {x : En} (h : EnAt w x) (ka : Option Addr) (kc : Nat) (key : List UInt8) : (enCells x).set 16 (.slice ka key.length kc) = enCells ⟨x.p, ka, kc, { x.e with key := key }⟩ := by
  unfold enCells
  rw [List.set_append_right _ _ (by simp [h.id])]
  simp [h.id]
theorem en_set17 {w : World} {x : En} (h : EnAt w x) (n : Nat) : (enCells x).set 17 (.int .i64 (n : Int)) = enCells ⟨x.p, x.ka, x.kc, { x.e with holds := n }⟩ := by
  unfold enCells
  rw [List.set_append_right _ _ (by simp [h.id])]
  simp [h.id]
/-- One entry turned (or its key's octets). -/
theorem RingAt.set {S D : Nat → Prop} {w w' : World} {r bo : Nat} {xs : List En} {i : Nat} {y : En} (h : RingAt w r bo xs D) (hi : i < xs.length) (hk : Kp S w w') (hS : ∀ j, S j → j = (xs.getD i default).p ∨ blkOf (xs.getD i default).ka j)
    (hp : y.p = (xs.getD i default).p) (hy : EnAt w' y) (hyk : ∀ b, blkOf y.ka b → blkOf (xs.getD i default).ka b ∨ w.heap.size ≤ b) : RingAt w' r bo (xs.set i y) (fun j => D j ∨ (w.heap.size ≤ j ∧ j < w'.heap.size)) := by
  obtain ⟨a, cap, g1, g2, g3⟩ := h.es
  obtain ⟨fz, hc⟩ := h.con
  have hx := mem_getD hi
  obtain ⟨hE, hd1, hd2⟩ := h.en _ hx
  have hno : ∀ {b : Nat} {E : TypeId} {fz : Nat × Nat} {cs : List Value}, Blk w b E fz cs → E ≠ 137 → E ≠ 5 → ¬ S b := by
    intro b E fz cs hB h1 h2 hs
    rcases hS b hs with e | hb
    · exact hB.ne hE.row h1 e
    · obtain ⟨_, hB'⟩ := hE.key.blk_of hb
      exact hB.ne hB' h2 rfl
  have hz := hk.size
  have hget : ∀ k (hk' : k < (xs.set i y).length), k ≠ i → (xs.set i y)[k] = xs[k]'(by simpa using hk') := fun k hk' hne => by rw [List.getElem_set, if_neg (Ne.symm hne)]
  have hap : ∀ k (hk' : k < xs.length), k ≠ i → apart (xs.getD i default) xs[k] := fun k hk' hne => by
    have e : xs.getD i default = xs[i] := by simp [List.getD, hi]
    rw [e]
    rcases Nat.lt_or_gt_of_ne hne with h1 | h1
    · exact apart_symm (List.pairwise_iff_getElem.1 h.ap k i hk' hi h1)
    · exact List.pairwise_iff_getElem.1 h.ap i k hi hk' h1
  have hapy : ∀ k (hk' : k < xs.length), k ≠ i → apart y xs[k] := fun k hk' hne => by
    obtain ⟨q1, q2⟩ := hap k hk' hne
    refine ⟨by rw [hp]; exact q1, fun b hb hb' => ?_⟩
    rcases hyk b hb with h1 | h1
    · exact q2 b h1 hb'
    · have := (h.en _ (List.getElem_mem hk')).1.key.lt b hb'; omega
  refine ⟨⟨a, cap, ?_, ?_, fun j hj => .inl (g3 j hj)⟩, h.ob.kp hk (hno h.ob (by decide) (by decide)), ⟨fz, hc.kp hk (hno hc (by decide) (by decide))⟩, ?_, ?_, .inl h.dr, fun x hx' => ?_, ?_, by simpa using h.few, fun j hj => ?_⟩
  · rw [List.length_set]; exact g1.kp hk (hno g1 (by decide) (by decide))
  · rw [List.length_set]
    have e : (xs.set i y).map ptrE = xs.map ptrE := by
      rw [List.map_set]
      apply List.ext_getElem (by simp)
      intro k h1 h2
      rw [List.getElem_set]
      split
      · rename_i e; subst e
        simp only [ptrE, hp, List.getElem_map]
        simp [List.getD, hi]
      · rfl
    rw [e]
    exact g2.kp hk fun j hj => by obtain ⟨_, hB⟩ := g2.blk_of hj; exact hno hB (by decide) (by decide)
  · rintro (h1 | h1)
    · exact h.nob h1
    · have := h.ob.lt; omega
  · rintro (h1 | h1)
    · exact h.ncon h1
    · have := hc.lt; omega
  · obtain ⟨k, hk', rfl⟩ := List.mem_iff_getElem.1 hx'
    by_cases e : k = i
    · subst e
      rw [List.getElem_set_self]
      refine ⟨hy, .inl (by rw [hp]; exact hd1), fun b hb => ?_⟩
      rcases hyk b hb with h1 | h1
      · exact .inl (hd2 b h1)
      · exact .inr ⟨h1, hy.key.lt b hb⟩
    · rw [hget k hk' e]
      have hk2 : k < xs.length := by simpa using hk'
      obtain ⟨q1, q2, q3⟩ := h.en _ (List.getElem_mem hk2)
      obtain ⟨r1, r2⟩ := hap k hk2 e
      refine ⟨q1.kp hk (fun hs => ?_) (fun b hb hs => ?_), .inl q2, fun b hb => .inl (q3 b hb)⟩
      · rcases hS _ hs with h1 | h1
        · exact r1 h1.symm
        · obtain ⟨_, hB⟩ := hE.key.blk_of h1; exact q1.row.ne hB (by decide) rfl
      · rcases hS _ hs with h1 | h1
        · obtain ⟨_, hB⟩ := q1.key.blk_of hb; exact hB.ne hE.row (by decide) h1
        · exact r2 b h1 hb
  · rw [List.pairwise_iff_getElem]
    intro j k hj hk' hjk
    have hj2 : j < xs.length := by simpa using hj
    have hk2 : k < xs.length := by simpa using hk'
    by_cases e1 : j = i
    · subst e1
      rw [List.getElem_set_self, hget k hk' (by omega)]
      exact hapy k hk2 (by omega)
    · rw [hget j hj e1]
      by_cases e2 : k = i
      · subst e2
        rw [List.getElem_set_self]
        exact apart_symm (hapy j hj2 e1)
      · rw [hget k hk' e2]
        exact List.pairwise_iff_getElem.1 h.ap j k hj2 hk2 hjk
  · rcases hj with h1 | h1
    · exact Nat.lt_of_lt_of_le (h.dlt j h1) hz
    · exact h1.2
end Go.Proofs.YtfngacepjcdlnaaDoor

namespace Go.Proofs.YtfngacepjcdlnaaDoor
open Go Go.Kx Go.Kr
theorem half_uw (m : Nat) (h : m < 9223372036854775808) : IntKind.i64.wrap (uw (BitVec.ofNat 64 m >>> 1)) = ((m / 2 : Nat) : Int) := by
  have e : uw (BitVec.ofNat 64 m >>> 1) = ((m / 2 : Nat) : Int) := by
    unfold uw
    rw [BitVec.toNat_ushiftRight, BitVec.toNat_ofNat, Nat.shiftRight_eq_div_pow, Nat.mod_eq_of_lt (by omega)]
  rw [e, i64_in (by omega) (by omega)]
set_option maxRecDepth 100000 in
set_option maxHeartbeats 2000000 in
theorem search_calls (xs : List En) (id : List UInt8) (a : Option Addr) (cap : Nat) (w : World) (hO : Own w 135 1 a xs.length cap (xs.map ptrE)) (hen : ∀ x ∈ xs, EnAt w x) (hs : Sorted (ents xs)) (hi : id.length = 16) (hl : xs.length ≤ 1000) :
    Calls Tryd.prog 100 #[.slice a xs.length cap, .agg (ints .u8 (bs8 id)).toArray, .func (.func 101) #[] #[]] w
      fun e w' => e = .returned (.tuple #[.int .i64 ((pos id (ents xs) : Nat) : Int), .bool (hit id (ents xs))]) ∧ Kp No w w' := by
  have hpl := pos_le id (ents xs)
  rw [ents_length] at hpl
  refine calls_at (n := 49) Tryd.func100 rfl rfl (by simp) ?_
  (refine At_seq ?_; refine At_region ?_)
  refine AtR_go rfl (AtG_box rfl fun b w1 hb e1 => ?_)
  have B1 : Blk w1 b 22 (0, 0) (ints .u8 (bs8 id)) := e1.blk
  have K1 : Kp No w w1 := e1.kp (.inr (by omega))
  clear e1
  (refine s_as ?_; refine s_as ?_; refine AtR_nil ?_; refine At_seq ?_; refine At_region ?_; refine s_mv ?_; refine s_ln ?_; refine s_as ?_; refine AtR_nil ?_; refine At_seq ?_; refine At_region ?_; refine s_mv ?_; refine s_as ?_; refine s_as ?_; refine AtR_nil ?_; refine At_seq ?_; refine At_block ?_)
  refine At_while (fun s : Nat × Nat => [(0, .slice a xs.length cap), (2, .func (.func 101) #[] #[]), (4, .pointer (some ⟨b, 0, none⟩)), (8, .int .i64 (xs.length : Int)), (9, .int .i64 (s.1 : Int)), (10, .int .i64 (s.2 : Int))])
    (fun s w' => s.1 ≤ pos id (ents xs) ∧ pos id (ents xs) ≤ s.2 ∧ s.2 ≤ xs.length ∧ Kp No w1 w') (fun s => s.2 - s.1) (0, xs.length) ⟨rfl, rfl, rfl, rfl, rfl, rfl, trivial⟩ ⟨by omega, hpl, Nat.le_refl _, Kp.refl _ _⟩ ?_
  rintro ⟨i, j⟩ w2 junk ⟨h1, h2, h3, K2⟩ again
  simp only at h1 h2 h3 again ⊢
  have K12 := K1.trans K2
  have kd := Kp.drew (S := No) (w := w2)
  by_cases hlt : i < j
  · (refine At_seq ?_; refine At_seq ?_; refine At_region ?_; refine s_mv ?_; refine s_mv ?_; refine s_lss ?_; refine AtR_nil ?_; refine At_cond_t rfl ?_; refine At_skip ?_; refine At_block ?_; refine At_seq ?_; refine At_region ?_; refine s_mv ?_; refine s_mv ?_; refine s_ad ?_; refine s_cv ?_)
    rw [show IntKind.u64.wrap ((i : Int) + (j : Int)) = uw (BitVec.ofNat 64 (i + j)) from wrap_nat (i + j)]
    refine s_val (x_shrW rfl rfl (by omega)) ?_
    rw [show (1 : Int).toNat = 1 from rfl]
    refine s_val (x_convert rfl) ?_
    rw [half_uw _ (by omega)]
    have hh1 : i ≤ (i + j) / 2 := by omega
    have hh2 : (i + j) / 2 < j := by omega
    generalize (i + j) / 2 = h at hh1 hh2 ⊢
    (refine s_as ?_; refine AtR_nil ?_; refine At_seq ?_)
    have hO2 := hO.kp (K12.trans kd) fun _ _ h => h
    obtain ⟨ab, rfl⟩ : ∃ ab, a = some ⟨ab, 0, none⟩ := by
      obtain ⟨_, g2, _, g4⟩ := hO2
      rcases g4 with ⟨_, g⟩ | ⟨b', sp, e, _, _⟩
      · omega
      · exact ⟨b', e⟩
    have hx := mem_getD (xs := xs) (i := h) (by omega)
    have hxe := (hen _ hx).kpn (K12.trans kd)
    refine At_draw (fun w' => Blk w' b 22 (0, 0) (ints .u8 (bs8 id)) ∧ Seg w' ab 0 (xs.map ptrE)) rfl ?_
    have hS : Blk w2.drew b 22 (0, 0) (ints .u8 (bs8 id)) ∧ Seg w2.drew ab 0 (xs.map ptrE) := ⟨(B1.kp K2 fun h => h).kp kd fun h => h, own_seg hO2⟩
    (apply AtH_take 0 rfl (by decide +kernel) (by exact rfl); (focus (intro wx hx; skip; exact x_move (by conv => lhs; whnf))); (focus (exact hS)))
    (apply AtH_take 1 rfl (by decide +kernel) (by exact rfl); (focus (intro wx hx; skip; exact x_move (by conv => lhs; whnf))); (focus (exact hS)))
    (apply AtH_take 2 rfl (by decide +kernel) (by exact rfl); (focus (intro wx hx; skip; exact x_move (by conv => lhs; whnf))); (focus (exact hS)))
    (apply AtH_take 3 rfl (by decide +kernel) (by exact rfl); (focus (intro wx hx; skip; exact x_indexAddrN1 rfl rfl (by omega))); (focus (exact hS)))
    -- ready now: 4 load 135 t27, 5 load 22 t4
    refine AtH_take 4 rfl (by decide +kernel) rfl (fun wx hx => x_load_ptr rfl hx.2 (by omega)) hS ?_
    refine AtH_take 5 rfl (by decide +kernel) rfl (fun wx hx => x_load_all rfl hx.1 (by simp [hi])) hS ?_
    refine AtH_call 6 rfl (by decide +kernel) rfl (x_callV (lb := []) rfl) (cmp_calls (xs.getD h default) id _ hxe hi) ?_
    rintro _ w3 ⟨rfl, k3⟩
    have hS3 : Blk w3 b 22 (0, 0) (ints .u8 (bs8 id)) ∧ Seg w3 ab 0 (xs.map ptrE) := ⟨hS.1.kp k3 fun h => h, own_seg (hO2.kp k3 fun _ _ h => h)⟩
    refine ⟨_, rfl, hS3, ?_⟩
    refine AtH_bool 7 rfl (by decide +kernel) rfl (fun wx hx => x_lss rfl rfl) (cmp_neg _ _) hS3 (AtH_done (by decide +kernel) ?_)
    have K3 := (K2.trans kd).trans k3
    cases hc : Kr.lt (xs.getD h default).e.id id with
    | true =>
      have hlp : h < pos id (ents xs) := by
        rcases Nat.lt_or_ge h (pos id (ents xs)) with g | g
        · exact g
        · have := pos_ge (id := id) hs (show h < (ents xs).length by simp; omega) g
          rw [ents_get', hc] at this; cases this
      (refine At_cond_t rfl ?_; refine At_region ?_; refine s_mv ?_; refine s_ad ?_; refine s_as ?_; refine AtR_nil ?_; refine At_inBlock ?_)
      refine again (h + 1, j) _ _ ⟨rfl, rfl, rfl, rfl, rfl, rfl, trivial⟩ ⟨by simp only; omega, h2, h3, K3⟩ (by simp only; omega)
    | false =>
      have hlp : pos id (ents xs) ≤ h := by
        rcases Nat.lt_or_ge h (pos id (ents xs)) with g | g
        · have := pos_lt (id := id) (show h < (ents xs).length by simp; omega) g
          rw [ents_get', hc] at this; cases this
        · exact g
      (refine At_cond_f rfl ?_; refine At_region ?_; refine s_mv ?_; refine s_as ?_; refine AtR_nil ?_; refine At_inBlock ?_)
      refine again (i, h) _ _ ⟨rfl, rfl, rfl, rfl, rfl, rfl, trivial⟩ ⟨h1, hlp, by simp only; omega, K3⟩ (by simp only; omega)
  have hip : i = pos id (ents xs) := by omega
  clear again
  (refine At_seq ?_; refine At_seq ?_; refine At_region ?_; refine s_mv ?_; refine s_mv ?_; refine s_lss ?_; refine AtR_nil ?_; refine At_cond_f rfl ?_; refine At_exit rfl ?_; refine At_seq ?_)
  have B2 := B1.kp (K2.trans kd) fun h => h
  have hO2 := hO.kp (K12.trans kd) fun _ _ h => h
  by_cases hin : i < xs.length
  · obtain ⟨ab, rfl⟩ : ∃ ab, a = some ⟨ab, 0, none⟩ := by
      obtain ⟨_, g2, _, g4⟩ := hO2
      rcases g4 with ⟨_, g⟩ | ⟨b', sp, e, _, _⟩
      · omega
      · exact ⟨b', e⟩
    have hx := mem_getD (xs := xs) hin
    have hxe := (hen _ hx).kpn (K12.trans kd)
    refine At_draw (fun w' => Blk w' b 22 (0, 0) (ints .u8 (bs8 id)) ∧ Seg w' ab 0 (xs.map ptrE)) rfl ?_
    have hS : Blk w2.drew b 22 (0, 0) (ints .u8 (bs8 id)) ∧ Seg w2.drew ab 0 (xs.map ptrE) := ⟨B2, own_seg hO2⟩
    (apply AtH_take 0 rfl (by decide +kernel) (by exact rfl); (focus (intro wx hx; skip; exact x_move (by conv => lhs; whnf))); (focus (exact hS)))
    (apply AtH_take 1 rfl (by decide +kernel) (by exact rfl); (focus (intro wx hx; skip; exact x_move (by conv => lhs; whnf))); (focus (exact hS)))
    (apply AtH_take 2 rfl (by decide +kernel) (by exact rfl); (focus (intro wx hx; skip; exact x_move (by conv => lhs; whnf))); (focus (exact hS)))
    (apply AtH_bool 3 rfl (by decide +kernel) (by exact rfl); (focus (intro wx hx; skip; exact x_lss rfl rfl)); (focus (exact decide_eq_true (by omega))); (focus (exact hS)))
    (apply AtH_take 4 rfl (by decide +kernel) (by exact rfl); (focus (intro wx hx; skip; exact x_move (by conv => lhs; whnf))); (focus (exact hS)))
    (apply AtH_take 5 rfl (by decide +kernel) (by exact ⟨_, _, rfl, by decide, rfl, rfl⟩); (focus (intro wx hx; skip; exact x_move (by conv => lhs; whnf))); (focus (exact hS)))
    (apply AtH_take 6 rfl (by decide +kernel) (by exact ⟨_, _, rfl, by decide, rfl, rfl⟩); (focus (intro wx hx; skip; exact x_move (by conv => lhs; whnf))); (focus (exact hS)))
    (apply AtH_take 7 rfl (by decide +kernel) (by exact ⟨_, _, rfl, by decide, rfl, rfl⟩); (focus (intro wx hx; skip; exact x_move (by conv => lhs; whnf))); (focus (exact hS)))
    (apply AtH_take 8 rfl (by decide +kernel) (by exact ⟨_, _, rfl, by decide, rfl, rfl⟩); (focus (intro wx hx; skip; exact x_indexAddrN1 rfl rfl (by omega))); (focus (exact hS)))
    -- ready now: 9 load 135 t43, 10 load 22 t4
    refine AtH_take 9 rfl (by decide +kernel) (by exact ⟨_, _, rfl, by decide, rfl, rfl⟩) (fun wx hx => x_load_ptr rfl hx.2 (by omega)) hS ?_
    refine AtH_take 10 rfl (by decide +kernel) (by exact ⟨_, _, rfl, by decide, rfl, rfl⟩) (fun wx hx => x_load_all rfl hx.1 (by simp [hi])) hS ?_
    refine AtH_call 11 rfl (by decide +kernel) (by exact ⟨_, _, rfl, by decide, rfl, rfl⟩) (x_callV (lb := []) rfl) (cmp_calls (xs.getD i default) id _ hxe hi) ?_
    rintro _ w3 ⟨rfl, k3⟩
    have hS3 : Blk w3 b 22 (0, 0) (ints .u8 (bs8 id)) ∧ Seg w3 ab 0 (xs.map ptrE) := ⟨hS.1.kp k3 fun h => h, own_seg (hO2.kp k3 fun _ _ h => h)⟩
    refine ⟨_, rfl, hS3, ?_⟩
    have hhit : decide (Lib.compareBytes (xs.getD i default).e.id id = 0) = hit id (ents xs) := by
      rw [cmp_zero]
      unfold hit
      rw [← hip, ents_get hin]
      generalize (xs.getD i default).e = en
      by_cases he : en.id = id <;> simp [he]
    refine AtH_bool 12 rfl (by decide +kernel) (by exact ⟨_, _, rfl, by decide, rfl, rfl⟩) (fun wx hx => x_eql rfl rfl) hhit hS3 ?_
    clear hS
    have hS := hS3
    (apply AtH_take 13 rfl (by decide +kernel) (by exact rfl); (focus (intro wx hx; skip; exact x_pick_t rfl (by conv => lhs; whnf))); (focus (exact hS)))
    (apply AtH_take 14 rfl (by decide +kernel) (by exact rfl); (focus (intro wx hx; skip; exact x_assign (by conv => lhs; whnf))); (focus (exact hS)))
    (apply AtH_take 15 rfl (by decide +kernel) (by exact rfl); (focus (intro wx hx; skip; exact x_assign (by conv => lhs; whnf))); (focus (exact hS)))
    refine AtH_done (by decide +kernel) ?_
    skip
    refine At_ret2 Tryd.func100 rfl (by conv => lhs; whnf) (by conv => lhs; whnf) ?_
    exact ⟨by rw [hip], ((K12.trans kd).trans k3)⟩
  · refine At_draw (fun _ => True) rfl ?_
    have hS : True := trivial
    (apply AtH_take 0 rfl (by decide +kernel) (by exact rfl); (focus (intro wx hx; skip; exact x_move (by conv => lhs; whnf))); (focus (exact hS)))
    (apply AtH_take 1 rfl (by decide +kernel) (by exact rfl); (focus (intro wx hx; skip; exact x_move (by conv => lhs; whnf))); (focus (exact hS)))
    (apply AtH_take 2 rfl (by decide +kernel) (by exact rfl); (focus (intro wx hx; skip; exact x_move (by conv => lhs; whnf))); (focus (exact hS)))
    (apply AtH_bool 3 rfl (by decide +kernel) (by exact rfl); (focus (intro wx hx; skip; exact x_lss rfl rfl)); (focus (exact decide_eq_false (by omega))); (focus (exact hS)))
    (apply AtH_take 4 rfl (by decide +kernel) (by exact rfl); (focus (intro wx hx; skip; exact x_move (by conv => lhs; whnf))); (focus (exact hS)))
    refine AtH_no 5 rfl (by decide +kernel) (by exact ⟨_, _, rfl, by decide, rfl, rfl⟩) hS ?_
    refine AtH_no 6 rfl (by decide +kernel) (by exact ⟨_, _, rfl, by decide, rfl, rfl⟩) hS ?_
    refine AtH_no 7 rfl (by decide +kernel) (by exact ⟨_, _, rfl, by decide, rfl, rfl⟩) hS ?_
    refine AtH_no 8 rfl (by decide +kernel) (by exact ⟨_, _, rfl, by decide, rfl, rfl⟩) hS ?_
    refine AtH_no 9 rfl (by decide +kernel) (by exact ⟨_, _, rfl, by decide, rfl, rfl⟩) hS ?_
    refine AtH_no 10 rfl (by decide +kernel) (by exact ⟨_, _, rfl, by decide, rfl, rfl⟩) hS ?_
    refine AtH_no 11 rfl (by decide +kernel) (by exact ⟨_, _, rfl, by decide, rfl, rfl⟩) hS ?_
    refine AtH_no 12 rfl (by decide +kernel) (by exact ⟨_, _, rfl, by decide, rfl, rfl⟩) hS ?_
    (apply AtH_take 13 rfl (by decide +kernel) (by exact rfl); (focus (intro wx hx; skip; exact x_pick_f rfl (by conv => lhs; whnf))); (focus (exact hS)))
    (apply AtH_take 14 rfl (by decide +kernel) (by exact rfl); (focus (intro wx hx; skip; exact x_assign (by conv => lhs; whnf))); (focus (exact hS)))
    (apply AtH_take 15 rfl (by decide +kernel) (by exact rfl); (focus (intro wx hx; skip; exact x_assign (by conv => lhs; whnf))); (focus (exact hS)))
    refine AtH_done (by decide +kernel) ?_
    skip
    refine At_ret2 Tryd.func100 rfl (by conv => lhs; whnf) (by conv => lhs; whnf) ?_
    have hhit : hit id (ents xs) = false := by
      unfold hit
      rw [← hip, List.getElem?_eq_none (by simp; omega)]
    exact ⟨by rw [hip, hhit], K12.trans kd⟩
end Go.Proofs.YtfngacepjcdlnaaDoor

namespace Go.Proofs.YtfngacepjcdlnaaDoor
open Go Go.Kx Go.Kr
set_option maxRecDepth 100000 in
theorem find_calls (xs : List En) (id : List UInt8) (r bo : Nat) (w : World) {D : Nat → Prop} (hR : RingAt w r bo xs D) (hs : Sorted (ents xs)) (hi : id.length = 16) :
    Calls Tryd.prog 67 #[.pointer (some ⟨r, 0, none⟩), .agg (ints .u8 (bs8 id)).toArray] w
      fun e w' => e = .returned (.tuple #[.int .i64 ((pos id (ents xs) : Nat) : Int), .bool (hit id (ents xs))]) ∧ Kp No w w' := by
  refine calls_at (n := 14) Tryd.func67 rfl rfl (by simp) ?_
  (refine At_seq ?_; refine At_region ?_)
  refine AtR_go rfl (AtG_box rfl fun b w1 hb e1 => ?_)
  have B1 : Blk w1 b 22 (0, 0) (ints .u8 (bs8 id)) := e1.blk
  have K1 : Kp No w w1 := e1.kp (.inr (by omega))
  clear e1
  (refine s_as ?_; refine s_as ?_; refine AtR_nil ?_; refine At_seq ?_)
  have kd := Kp.drew (S := No) (w := w1)
  have hR1 := (hR.kpn K1).kpn kd
  have B2 := B1.kp kd fun h => h
  obtain ⟨a, cap, R1, hO, _⟩ := hR1.es
  refine At_draw (fun w' => Blk w' r 125 (0, 0) [.pointer (some ⟨bo, 0, none⟩), .slice a xs.length cap] ∧ Blk w' b 22 (0, 0) (ints .u8 (bs8 id))) rfl ?_
  have hS : Blk w1.drew r 125 (0, 0) [.pointer (some ⟨bo, 0, none⟩), .slice a xs.length cap] ∧ Blk w1.drew b 22 (0, 0) (ints .u8 (bs8 id)) := ⟨R1, B2⟩
  (apply AtH_take 0 rfl (by decide +kernel) (by first | exact rfl | exact ⟨_, _, rfl, by decide, rfl, rfl⟩); (focus (intro wx hx; skip; first | exact x_len_str rfl | exact x_xorW rfl rfl | exact x_andW rfl rfl | exact x_orW rfl rfl | exact x_addW rfl rfl | exact x_load_bw rfl (by assumption) (by omega) | exact x_load_sw rfl (by assumption) (by omega) | exact x_load_bb rfl (by assumption) (by omega) | exact x_load_sb rfl (by assumption) (by omega) | exact x_indexAddrA rfl rfl (by omega) | exact x_indexAddrI rfl rfl (by omega) (by omega) | exact x_quoI rfl rfl (by omega) (by omega) (by omega) | exact x_remI rfl rfl (by omega) (by omega) | exact x_mul64 rfl rfl (by omega) (by omega) | exact x_shlW rfl rfl (by omega) | exact x_shrW rfl rfl (by omega) | exact x_conv_bw rfl | exact x_conv_wb rfl | exact x_neg64 rfl (by omega) (by omega) | exact x_xorB rfl rfl | exact x_slice_arr rfl | exact x_slice_arr_l rfl rfl (by omega) | exact x_slice_arr_h rfl rfl (by omega) | exact x_notW rfl | exact x_move (by conv => lhs; whnf) | exact x_assign (by conv => lhs; whnf) | exact x_pick_t rfl (by conv => lhs; whnf) | exact x_pick_f rfl (by conv => lhs; whnf) | exact x_not rfl | exact x_extract rfl rfl | exact x_nilCheck rfl | exact x_load_ints rfl (by assumption) (by omega) | exact x_load_bints rfl (by assumption) (by omega) | exact x_load_flw rfl (by assumption) (by assumption) rfl | exact x_load1 rfl (by assumption) rfl | exact x_load_fl rfl (by assumption) rfl (by assumption) rfl | exact x_load_fl1 rfl (by assumption) rfl (by assumption) | exact x_indexAddrN1 rfl rfl (by omega) | exact x_slice_hN rfl (by assumption) rfl (by omega) | exact x_indexAddr1 rfl rfl (by omega) (by omega) | exact x_add64 rfl rfl (by omega) (by omega) | exact x_sub64 rfl rfl (by omega) (by omega) | exact x_len_slice rfl | exact x_len_string rfl | exact x_fieldAddrN rfl (by first | exact Nat.zero_add _ | exact Nat.add_zero _ | (simp only [Nat.reduceAdd] <;> rfl) | exact rfl))); (focus (exact hS)))
  (apply AtH_take 1 rfl (by decide +kernel) (by first | exact rfl | exact ⟨_, _, rfl, by decide, rfl, rfl⟩); (focus (intro wx hx; skip; first | exact x_len_str rfl | exact x_xorW rfl rfl | exact x_andW rfl rfl | exact x_orW rfl rfl | exact x_addW rfl rfl | exact x_load_bw rfl (by assumption) (by omega) | exact x_load_sw rfl (by assumption) (by omega) | exact x_load_bb rfl (by assumption) (by omega) | exact x_load_sb rfl (by assumption) (by omega) | exact x_indexAddrA rfl rfl (by omega) | exact x_indexAddrI rfl rfl (by omega) (by omega) | exact x_quoI rfl rfl (by omega) (by omega) (by omega) | exact x_remI rfl rfl (by omega) (by omega) | exact x_mul64 rfl rfl (by omega) (by omega) | exact x_shlW rfl rfl (by omega) | exact x_shrW rfl rfl (by omega) | exact x_conv_bw rfl | exact x_conv_wb rfl | exact x_neg64 rfl (by omega) (by omega) | exact x_xorB rfl rfl | exact x_slice_arr rfl | exact x_slice_arr_l rfl rfl (by omega) | exact x_slice_arr_h rfl rfl (by omega) | exact x_notW rfl | exact x_move (by conv => lhs; whnf) | exact x_assign (by conv => lhs; whnf) | exact x_pick_t rfl (by conv => lhs; whnf) | exact x_pick_f rfl (by conv => lhs; whnf) | exact x_not rfl | exact x_extract rfl rfl | exact x_nilCheck rfl | exact x_load_ints rfl (by assumption) (by omega) | exact x_load_bints rfl (by assumption) (by omega) | exact x_load_flw rfl (by assumption) (by assumption) rfl | exact x_load1 rfl (by assumption) rfl | exact x_load_fl rfl (by assumption) rfl (by assumption) rfl | exact x_load_fl1 rfl (by assumption) rfl (by assumption) | exact x_indexAddrN1 rfl rfl (by omega) | exact x_slice_hN rfl (by assumption) rfl (by omega) | exact x_indexAddr1 rfl rfl (by omega) (by omega) | exact x_add64 rfl rfl (by omega) (by omega) | exact x_sub64 rfl rfl (by omega) (by omega) | exact x_len_slice rfl | exact x_len_string rfl | exact x_fieldAddrN rfl (by first | exact Nat.zero_add _ | exact Nat.add_zero _ | (simp only [Nat.reduceAdd] <;> rfl) | exact rfl))); (focus (exact hS)))
  (apply AtH_take 2 rfl (by decide +kernel) (by first | exact rfl | exact ⟨_, _, rfl, by decide, rfl, rfl⟩); (focus (intro wx hx; skip; first | exact x_len_str rfl | exact x_xorW rfl rfl | exact x_andW rfl rfl | exact x_orW rfl rfl | exact x_addW rfl rfl | exact x_load_bw rfl (by assumption) (by omega) | exact x_load_sw rfl (by assumption) (by omega) | exact x_load_bb rfl (by assumption) (by omega) | exact x_load_sb rfl (by assumption) (by omega) | exact x_indexAddrA rfl rfl (by omega) | exact x_indexAddrI rfl rfl (by omega) (by omega) | exact x_quoI rfl rfl (by omega) (by omega) (by omega) | exact x_remI rfl rfl (by omega) (by omega) | exact x_mul64 rfl rfl (by omega) (by omega) | exact x_shlW rfl rfl (by omega) | exact x_shrW rfl rfl (by omega) | exact x_conv_bw rfl | exact x_conv_wb rfl | exact x_neg64 rfl (by omega) (by omega) | exact x_xorB rfl rfl | exact x_slice_arr rfl | exact x_slice_arr_l rfl rfl (by omega) | exact x_slice_arr_h rfl rfl (by omega) | exact x_notW rfl | exact x_move (by conv => lhs; whnf) | exact x_assign (by conv => lhs; whnf) | exact x_pick_t rfl (by conv => lhs; whnf) | exact x_pick_f rfl (by conv => lhs; whnf) | exact x_not rfl | exact x_extract rfl rfl | exact x_nilCheck rfl | exact x_load_ints rfl (by assumption) (by omega) | exact x_load_bints rfl (by assumption) (by omega) | exact x_load_flw rfl (by assumption) (by assumption) rfl | exact x_load1 rfl (by assumption) rfl | exact x_load_fl rfl (by assumption) rfl (by assumption) rfl | exact x_load_fl1 rfl (by assumption) rfl (by assumption) | exact x_indexAddrN1 rfl rfl (by omega) | exact x_slice_hN rfl (by assumption) rfl (by omega) | exact x_indexAddr1 rfl rfl (by omega) (by omega) | exact x_add64 rfl rfl (by omega) (by omega) | exact x_sub64 rfl rfl (by omega) (by omega) | exact x_len_slice rfl | exact x_len_string rfl | exact x_fieldAddrN rfl (by first | exact Nat.zero_add _ | exact Nat.add_zero _ | (simp only [Nat.reduceAdd] <;> rfl) | exact rfl))); (focus (exact hS)))
  -- ready now: 3 load 123 t8, 4 load 22 t3
  refine AtH_take 3 rfl (by decide +kernel) rfl (fun wx hx => x_load1 rfl hx.1 rfl) hS ?_
  refine AtH_take 4 rfl (by decide +kernel) rfl (fun wx hx => x_load_all rfl hx.2 (by simp [hi])) hS ?_
  refine AtH_call 5 rfl (by decide +kernel) (by first | exact rfl | exact ⟨_, _, rfl, by decide, rfl, rfl⟩) x_call  (search_calls xs id a cap _ hO (fun x hx => (hR1.en x hx).1) hs hi (by have := hR.few; omega)) ?_
  rintro _ w2 ⟨rfl, k2⟩
  refine ⟨_, rfl, ⟨hS.1.kp k2 fun h => h, hS.2.kp k2 fun h => h⟩, ?_⟩
  replace hS : Blk w2 r 125 (0, 0) [.pointer (some ⟨bo, 0, none⟩), .slice a xs.length cap] ∧ Blk w2 b 22 (0, 0) (ints .u8 (bs8 id)) := ⟨hS.1.kp k2 fun h => h, hS.2.kp k2 fun h => h⟩
  (apply AtH_take 6 rfl (by decide +kernel) (by first | exact rfl | exact ⟨_, _, rfl, by decide, rfl, rfl⟩); (focus (intro wx hx; skip; first | exact x_len_str rfl | exact x_xorW rfl rfl | exact x_andW rfl rfl | exact x_orW rfl rfl | exact x_addW rfl rfl | exact x_load_bw rfl (by assumption) (by omega) | exact x_load_sw rfl (by assumption) (by omega) | exact x_load_bb rfl (by assumption) (by omega) | exact x_load_sb rfl (by assumption) (by omega) | exact x_indexAddrA rfl rfl (by omega) | exact x_indexAddrI rfl rfl (by omega) (by omega) | exact x_quoI rfl rfl (by omega) (by omega) (by omega) | exact x_remI rfl rfl (by omega) (by omega) | exact x_mul64 rfl rfl (by omega) (by omega) | exact x_shlW rfl rfl (by omega) | exact x_shrW rfl rfl (by omega) | exact x_conv_bw rfl | exact x_conv_wb rfl | exact x_neg64 rfl (by omega) (by omega) | exact x_xorB rfl rfl | exact x_slice_arr rfl | exact x_slice_arr_l rfl rfl (by omega) | exact x_slice_arr_h rfl rfl (by omega) | exact x_notW rfl | exact x_move (by conv => lhs; whnf) | exact x_assign (by conv => lhs; whnf) | exact x_pick_t rfl (by conv => lhs; whnf) | exact x_pick_f rfl (by conv => lhs; whnf) | exact x_not rfl | exact x_extract rfl rfl | exact x_nilCheck rfl | exact x_load_ints rfl (by assumption) (by omega) | exact x_load_bints rfl (by assumption) (by omega) | exact x_load_flw rfl (by assumption) (by assumption) rfl | exact x_load1 rfl (by assumption) rfl | exact x_load_fl rfl (by assumption) rfl (by assumption) rfl | exact x_load_fl1 rfl (by assumption) rfl (by assumption) | exact x_indexAddrN1 rfl rfl (by omega) | exact x_slice_hN rfl (by assumption) rfl (by omega) | exact x_indexAddr1 rfl rfl (by omega) (by omega) | exact x_add64 rfl rfl (by omega) (by omega) | exact x_sub64 rfl rfl (by omega) (by omega) | exact x_len_slice rfl | exact x_len_string rfl | exact x_fieldAddrN rfl (by first | exact Nat.zero_add _ | exact Nat.add_zero _ | (simp only [Nat.reduceAdd] <;> rfl) | exact rfl))); (focus (exact hS)))
  (apply AtH_take 7 rfl (by decide +kernel) (by first | exact rfl | exact ⟨_, _, rfl, by decide, rfl, rfl⟩); (focus (intro wx hx; skip; first | exact x_len_str rfl | exact x_xorW rfl rfl | exact x_andW rfl rfl | exact x_orW rfl rfl | exact x_addW rfl rfl | exact x_load_bw rfl (by assumption) (by omega) | exact x_load_sw rfl (by assumption) (by omega) | exact x_load_bb rfl (by assumption) (by omega) | exact x_load_sb rfl (by assumption) (by omega) | exact x_indexAddrA rfl rfl (by omega) | exact x_indexAddrI rfl rfl (by omega) (by omega) | exact x_quoI rfl rfl (by omega) (by omega) (by omega) | exact x_remI rfl rfl (by omega) (by omega) | exact x_mul64 rfl rfl (by omega) (by omega) | exact x_shlW rfl rfl (by omega) | exact x_shrW rfl rfl (by omega) | exact x_conv_bw rfl | exact x_conv_wb rfl | exact x_neg64 rfl (by omega) (by omega) | exact x_xorB rfl rfl | exact x_slice_arr rfl | exact x_slice_arr_l rfl rfl (by omega) | exact x_slice_arr_h rfl rfl (by omega) | exact x_notW rfl | exact x_move (by conv => lhs; whnf) | exact x_assign (by conv => lhs; whnf) | exact x_pick_t rfl (by conv => lhs; whnf) | exact x_pick_f rfl (by conv => lhs; whnf) | exact x_not rfl | exact x_extract rfl rfl | exact x_nilCheck rfl | exact x_load_ints rfl (by assumption) (by omega) | exact x_load_bints rfl (by assumption) (by omega) | exact x_load_flw rfl (by assumption) (by assumption) rfl | exact x_load1 rfl (by assumption) rfl | exact x_load_fl rfl (by assumption) rfl (by assumption) rfl | exact x_load_fl1 rfl (by assumption) rfl (by assumption) | exact x_indexAddrN1 rfl rfl (by omega) | exact x_slice_hN rfl (by assumption) rfl (by omega) | exact x_indexAddr1 rfl rfl (by omega) (by omega) | exact x_add64 rfl rfl (by omega) (by omega) | exact x_sub64 rfl rfl (by omega) (by omega) | exact x_len_slice rfl | exact x_len_string rfl | exact x_fieldAddrN rfl (by first | exact Nat.zero_add _ | exact Nat.add_zero _ | (simp only [Nat.reduceAdd] <;> rfl) | exact rfl))); (focus (exact hS)))
  (apply AtH_take 8 rfl (by decide +kernel) (by first | exact rfl | exact ⟨_, _, rfl, by decide, rfl, rfl⟩); (focus (intro wx hx; skip; first | exact x_len_str rfl | exact x_xorW rfl rfl | exact x_andW rfl rfl | exact x_orW rfl rfl | exact x_addW rfl rfl | exact x_load_bw rfl (by assumption) (by omega) | exact x_load_sw rfl (by assumption) (by omega) | exact x_load_bb rfl (by assumption) (by omega) | exact x_load_sb rfl (by assumption) (by omega) | exact x_indexAddrA rfl rfl (by omega) | exact x_indexAddrI rfl rfl (by omega) (by omega) | exact x_quoI rfl rfl (by omega) (by omega) (by omega) | exact x_remI rfl rfl (by omega) (by omega) | exact x_mul64 rfl rfl (by omega) (by omega) | exact x_shlW rfl rfl (by omega) | exact x_shrW rfl rfl (by omega) | exact x_conv_bw rfl | exact x_conv_wb rfl | exact x_neg64 rfl (by omega) (by omega) | exact x_xorB rfl rfl | exact x_slice_arr rfl | exact x_slice_arr_l rfl rfl (by omega) | exact x_slice_arr_h rfl rfl (by omega) | exact x_notW rfl | exact x_move (by conv => lhs; whnf) | exact x_assign (by conv => lhs; whnf) | exact x_pick_t rfl (by conv => lhs; whnf) | exact x_pick_f rfl (by conv => lhs; whnf) | exact x_not rfl | exact x_extract rfl rfl | exact x_nilCheck rfl | exact x_load_ints rfl (by assumption) (by omega) | exact x_load_bints rfl (by assumption) (by omega) | exact x_load_flw rfl (by assumption) (by assumption) rfl | exact x_load1 rfl (by assumption) rfl | exact x_load_fl rfl (by assumption) rfl (by assumption) rfl | exact x_load_fl1 rfl (by assumption) rfl (by assumption) | exact x_indexAddrN1 rfl rfl (by omega) | exact x_slice_hN rfl (by assumption) rfl (by omega) | exact x_indexAddr1 rfl rfl (by omega) (by omega) | exact x_add64 rfl rfl (by omega) (by omega) | exact x_sub64 rfl rfl (by omega) (by omega) | exact x_len_slice rfl | exact x_len_string rfl | exact x_fieldAddrN rfl (by first | exact Nat.zero_add _ | exact Nat.add_zero _ | (simp only [Nat.reduceAdd] <;> rfl) | exact rfl))); (focus (exact hS)))
  (apply AtH_take 9 rfl (by decide +kernel) (by first | exact rfl | exact ⟨_, _, rfl, by decide, rfl, rfl⟩); (focus (intro wx hx; skip; first | exact x_len_str rfl | exact x_xorW rfl rfl | exact x_andW rfl rfl | exact x_orW rfl rfl | exact x_addW rfl rfl | exact x_load_bw rfl (by assumption) (by omega) | exact x_load_sw rfl (by assumption) (by omega) | exact x_load_bb rfl (by assumption) (by omega) | exact x_load_sb rfl (by assumption) (by omega) | exact x_indexAddrA rfl rfl (by omega) | exact x_indexAddrI rfl rfl (by omega) (by omega) | exact x_quoI rfl rfl (by omega) (by omega) (by omega) | exact x_remI rfl rfl (by omega) (by omega) | exact x_mul64 rfl rfl (by omega) (by omega) | exact x_shlW rfl rfl (by omega) | exact x_shrW rfl rfl (by omega) | exact x_conv_bw rfl | exact x_conv_wb rfl | exact x_neg64 rfl (by omega) (by omega) | exact x_xorB rfl rfl | exact x_slice_arr rfl | exact x_slice_arr_l rfl rfl (by omega) | exact x_slice_arr_h rfl rfl (by omega) | exact x_notW rfl | exact x_move (by conv => lhs; whnf) | exact x_assign (by conv => lhs; whnf) | exact x_pick_t rfl (by conv => lhs; whnf) | exact x_pick_f rfl (by conv => lhs; whnf) | exact x_not rfl | exact x_extract rfl rfl | exact x_nilCheck rfl | exact x_load_ints rfl (by assumption) (by omega) | exact x_load_bints rfl (by assumption) (by omega) | exact x_load_flw rfl (by assumption) (by assumption) rfl | exact x_load1 rfl (by assumption) rfl | exact x_load_fl rfl (by assumption) rfl (by assumption) rfl | exact x_load_fl1 rfl (by assumption) rfl (by assumption) | exact x_indexAddrN1 rfl rfl (by omega) | exact x_slice_hN rfl (by assumption) rfl (by omega) | exact x_indexAddr1 rfl rfl (by omega) (by omega) | exact x_add64 rfl rfl (by omega) (by omega) | exact x_sub64 rfl rfl (by omega) (by omega) | exact x_len_slice rfl | exact x_len_string rfl | exact x_fieldAddrN rfl (by first | exact Nat.zero_add _ | exact Nat.add_zero _ | (simp only [Nat.reduceAdd] <;> rfl) | exact rfl))); (focus (exact hS)))
  refine AtH_done (by decide +kernel) ?_
  skip
  refine At_ret2 Tryd.func67 rfl (by conv => lhs; whnf) (by conv => lhs; whnf) ?_
  exact ⟨rfl, (K1.trans kd).trans k2⟩
def enOf (id : List UInt8) (xs : List En) : En := xs.getD (pos id (ents xs)) default
theorem enOf_mem {id : List UInt8} {xs : List En} (h : hit id (ents xs) = true) : enOf id xs ∈ xs := by
  obtain ⟨hl, _⟩ := ent_eq h
  exact mem_getD (by simpa using hl)
theorem enOf_e {id : List UInt8} {xs : List En} (h : hit id (ents xs) = true) : (enOf id xs).e = ent id (ents xs) := by
  obtain ⟨hl, e1, _⟩ := ent_eq h
  rw [e1, ents_get']; rfl
set_option maxRecDepth 100000 in
theorem of_calls (xs : List En) (id : List UInt8) (r bo : Nat) (w : World) {D : Nat → Prop} (hR : RingAt w r bo xs D) (hs : Sorted (ents xs)) (hi : id.length = 16) :
    Calls Tryd.prog 83 #[.pointer (some ⟨r, 0, none⟩), .agg (ints .u8 (bs8 id)).toArray] w
      fun e w' => e = .returned (if hit id (ents xs) then .pointer (some ⟨(enOf id xs).p, 0, none⟩) else .pointer none) ∧ Kp No w w' := by
  refine calls_at (n := 22) Tryd.func83 rfl rfl (by simp) ?_
  (refine At_seq ?_; refine At_region ?_)
  refine AtR_go rfl (AtG_box rfl fun b w1 hb e1 => ?_)
  have B1 : Blk w1 b 22 (0, 0) (ints .u8 (bs8 id)) := e1.blk
  have K1 : Kp No w w1 := e1.kp (.inr (by omega))
  clear e1
  (refine s_as ?_; refine AtR_nil ?_; refine At_seq ?_; refine At_region ?_; refine s_mv ?_)
  refine s_val (x_load_all rfl B1 (by simp [hi])) ?_
  refine s_call x_call (find_calls xs id r bo _ (hR.kpn K1) hs hi) ?_
  rintro _ w2 ⟨rfl, k2⟩
  refine ⟨_, rfl, ?_⟩
  have K2 := K1.trans k2
  (refine s_mv ?_; refine s_ex ?_; refine s_ex ?_; refine s_as ?_; refine s_as ?_; refine AtR_nil ?_; refine At_seq ?_; refine At_seq ?_; refine At_region ?_; refine s_mv ?_; refine s_nt ?_; refine AtR_nil ?_)
  cases hh : hit id (ents xs) with
  | false =>
    (refine At_cond_t rfl ?_; refine At_seq ?_; refine At_region ?_; refine s_as ?_; refine AtR_nil ?_)
    refine At_ret1 Tryd.func83 rfl (by conv => lhs; whnf) ?_
    exact ⟨rfl, K2⟩
  | true =>
    obtain ⟨hl, _⟩ := ent_eq hh
    rw [ents_length] at hl
    obtain ⟨a, cap, R2, hO, _⟩ := (hR.kpn K2).es
    obtain ⟨ab, rfl⟩ : ∃ ab, a = some ⟨ab, 0, none⟩ := by
      obtain ⟨_, g2, _, g4⟩ := hO
      rcases g4 with ⟨_, g⟩ | ⟨b', sp, e, _, _⟩
      · omega
      · exact ⟨b', e⟩
    (refine At_cond_f rfl ?_; refine At_skip ?_; refine At_seq ?_; refine At_region ?_; refine s_mv ?_; refine s_nc ?_; refine s_fa ?_; refine s_ld ?_; refine s_mv ?_; refine s_ia ?_)
    refine s_val (x_load_ptr rfl (own_seg hO) hl) ?_
    (refine s_as ?_; refine AtR_nil ?_)
    refine At_ret1 Tryd.func83 rfl (by conv => lhs; whnf) ?_
    exact ⟨rfl, K2⟩
set_option maxRecDepth 100000 in
theorem status_calls (xs : List En) (id : List UInt8) (r bo : Nat) (w : World) {D : Nat → Prop} (hR : RingAt w r bo xs D) (hs : Sorted (ents xs)) (hi : id.length = 16) :
    Calls Tryd.prog 38 #[.pointer (some ⟨r, 0, none⟩), .agg (ints .u8 (bs8 id)).toArray] w fun e w' => e = .returned (.int .i64 ((stat id (ents xs) : Nat) : Int)) ∧ Kp No w w' := by
  refine calls_at (n := 19) Tryd.func38 rfl rfl (by simp) ?_
  (refine At_seq ?_; refine At_region ?_)
  refine AtR_go rfl (AtG_box rfl fun b w1 hb e1 => ?_)
  have B1 : Blk w1 b 22 (0, 0) (ints .u8 (bs8 id)) := e1.blk
  have K1 : Kp No w w1 := e1.kp (.inr (by omega))
  clear e1
  (refine s_as ?_; refine AtR_nil ?_; refine At_seq ?_; refine At_region ?_; refine s_mv ?_)
  refine s_val (x_load_all rfl B1 (by simp [hi])) ?_
  refine s_call x_call (of_calls xs id r bo _ (hR.kpn K1) hs hi) ?_
  rintro _ w2 ⟨rfl, k2⟩
  refine ⟨_, rfl, ?_⟩
  have K2 := K1.trans k2
  cases hh : hit id (ents xs) with
  | false =>
    have hst : stat id (ents xs) = 0 := stat_zero.2 hh
    rw [hst]
    simp only [Bool.false_eq_true, if_false]
    (refine s_as ?_; refine AtR_nil ?_; refine At_seq ?_; refine At_block ?_; refine At_seq ?_; refine At_region ?_; refine s_mv ?_; refine s_eqln ?_; refine s_as ?_; refine AtR_nil ?_; refine At_cond_t rfl ?_; refine At_seq ?_; refine At_region ?_; refine s_as ?_; refine AtR_nil ?_)
    refine At_ret1 Tryd.func38 rfl (by conv => lhs; whnf) ?_
    exact ⟨rfl, K2⟩
  | true =>
    simp only [if_true]
    obtain ⟨hE, _⟩ := (hR.kpn K2).en _ (enOf_mem hh)
    have hrow := hE.row
    (refine s_as ?_; refine AtR_nil ?_; refine At_seq ?_; refine At_block ?_; refine At_seq ?_; refine At_region ?_; refine s_mv ?_; refine s_eqlp ?_; refine s_as ?_; refine AtR_nil ?_; refine At_cond_f rfl ?_; refine At_seq ?_; refine At_region ?_; refine s_mv ?_; refine s_nc ?_; refine s_fa ?_)
    refine s_val (x_load1 rfl hrow (by simp [enCells, hE.id]; rfl)) ?_
    by_cases hk : (enOf id xs).e.key = []
    · have hst : stat id (ents xs) = 2 := by unfold stat; rw [hh, if_pos rfl, ← enOf_e hh, if_pos hk]
      rw [hst]
      have hl0 : (enOf id xs).e.key.length = 0 := by rw [hk]; rfl
      (refine s_ln ?_; refine s_eql ?_; refine s_as ?_; refine AtR_nil ?_; refine At_cond_t rfl ?_; refine At_seq ?_; refine At_region ?_; refine s_as ?_; refine AtR_nil ?_)
      refine At_ret1 Tryd.func38 rfl (by conv => lhs; whnf) ?_
      exact ⟨rfl, K2⟩
    · have hst : stat id (ents xs) = 1 := by unfold stat; rw [hh, if_pos rfl, ← enOf_e hh, if_neg hk]
      rw [hst]
      have hl0 : (enOf id xs).e.key.length ≠ 0 := fun h => hk (List.eq_nil_of_length_eq_zero h)
      (refine s_ln ?_; refine s_eql ?_; refine s_as ?_; refine AtR_nil ?_; refine At_cond_f rfl ?_; refine At_skip ?_; refine At_inBlock ?_; refine At_seq ?_; refine At_region ?_; refine s_as ?_; refine AtR_nil ?_)
      refine At_ret1 Tryd.func38 rfl (by conv => lhs; whnf) ?_
      exact ⟨rfl, K2⟩
end Go.Proofs.YtfngacepjcdlnaaDoor

namespace Go.Proofs.YtfngacepjcdlnaaDoor
open Go Go.Kx Go.Kr
instance : TX Tryd.prog 103 (Extern.SlicesOverlaps.overlaps #[123, 123] #[4]) := ⟨_, Tryd.func103, by kernel_rfl, by kernel_rfl, by kernel_rfl, by kernel_rfl⟩
theorem ins_len {cs : List Value} {x : Value} {i : Nat} (h : i ≤ cs.length) : (cs.take i ++ x :: cs.drop i).length = cs.length + 1 := by simp; omega
set_option maxRecDepth 100000 in
set_option maxHeartbeats 4000000 in
theorem insert_calls (cs : List Value) (x : Value) (i m : Nat) (a : Option Addr) (cap bv : Nat) (w : World) (hO : Own w 135 1 a m cap cs) (hv : Blk w bv 135 (0, 0) [x]) (hi : i ≤ m) (hm : m ≤ 1000) (h1 : cs.all (·.oneCell') = true) (hx : x.oneCell' = true) (hb : ¬ blkOf a bv) :
    Calls Tryd.prog 68 #[.slice a m cap, .int .i64 (i : Int), .slice (some ⟨bv, 0, none⟩) 1 1] w
      fun e w' => ∃ a' cap', e = .returned (.slice a' (m + 1) cap') ∧ Own w' 135 1 a' (m + 1) cap' (cs.take i ++ x :: cs.drop i) ∧ (∀ j, blkOf a' j → blkOf a j ∨ w.heap.size ≤ j) ∧ Kp (blkOf a) w w' := by
  have hlen := hO.1
  have hcap := hO.2.1
  have hmax := hO.2.2.1
  rw [Nat.mul_one] at hlen
  have hsp := hO.spot
  refine calls_at (n := 95) Tryd.func68 rfl rfl (by simp) ?_
  (refine At_seq ?_; refine At_region ?_; refine s_as ?_; refine AtR_nil ?_; refine At_seq ?_; refine At_region ?_; refine s_mv ?_; refine s_mv ?_)
  refine AtR_go rfl (G_val (r_slice_from rfl hsp rfl hi hcap) ?_)
  rintro _ _ ⟨rfl, a0, rfl⟩
  (refine AtR_nil ?_; refine At_seq ?_; refine At_region ?_; refine s_mv ?_; refine s_ln ?_; refine s_as ?_; refine AtR_nil ?_; refine At_seq ?_; refine At_seq ?_; refine At_region ?_; refine s_mv ?_; refine s_eql ?_; refine AtR_nil ?_; refine At_cond_f rfl ?_; refine At_skip ?_; refine At_seq ?_; refine At_region ?_; refine s_mv ?_; refine s_ln ?_; refine s_as ?_; refine AtR_nil ?_; refine At_seq ?_; refine At_seq ?_; refine At_region ?_; refine s_mv ?_; refine s_mv ?_)
  by_cases him : i = m
  · subst him
    (refine s_eql ?_; refine AtR_nil ?_; refine At_cond_t rfl ?_; refine At_seq ?_; refine At_region ?_; refine s_mv ?_; refine s_mv ?_)
    refine AtR_go rfl (AtG_append (tx := 123) rfl rfl hO (hv.src (T := 123) rfl rfl (by simp [hx])) rfl (by omega) (by simp only [maxLen]; omega) (by omega) fun a' cap' w' ho' k' hf' => ?_)
    (refine s_as ?_; refine AtR_nil ?_)
    refine At_ret1 Tryd.func68 rfl (by conv => lhs; whnf) ?_
    refine ⟨a', cap', rfl, ?_, ?_, k'⟩
    · rw [List.take_of_length_le (by omega), List.drop_eq_nil_of_le (by omega)]; exact ho'
    · rcases hf' with rfl | ⟨b, rfl, hb⟩
      · exact fun j hj => .inl hj
      · intro j hj; simp [blkOf] at hj; right; omega
  have hlt : i < m := by omega
  obtain ⟨ab, sp, rfl, hB, hBl, hcl⟩ := hO.some_of (by omega)
  have hbv : ab ≠ bv := fun h => hb (by simp [blkOf, h])
  have hvs : Seg w bv 0 [x] := fun j hj => by rw [Nat.zero_add, hv.cell]
  have hx1 : [x].all (·.oneCell') = true := by simp [hx]
  have hd1 : (cs.drop i).all (·.oneCell') = true := List.all_eq_true.2 fun v hv => (List.all_eq_true.1 h1) v (List.mem_of_mem_drop hv)
  have hdl : (cs.drop i).length = m - i := by simp; omega
  by_cases hroom : cap < m + 1
  · (refine s_eql ?_; refine AtR_nil ?_; refine At_cond_f rfl ?_; refine At_skip ?_; refine At_seq ?_; refine At_seq ?_; refine At_region ?_; refine s_mv ?_; refine s_mv ?_; refine s_ad ?_; refine s_mv ?_; refine s_cp ?_; refine s_gtr ?_; refine AtR_nil ?_; refine At_cond_t rfl ?_; refine At_seq ?_; refine At_region ?_; refine s_mv ?_; refine s_mv ?_; refine s_sl ?_; refine s_mv ?_; refine s_mv ?_; refine s_ad ?_; refine s_mv ?_; refine s_sb ?_)
    rw [show ((m : Int) + ((1 : Nat) : Int) - (i : Int)) = ((m + 1 - i : Nat) : Int) by omega]
    refine AtR_go rfl (G_val (r_append_zeros (k := m + 1 - i) (z := .pointer none) rfl rfl (hO.take hi) rfl (by omega) (by omega) (by simp only [maxLen]; omega) (by omega)) ?_)
    rintro _ w2 ⟨b2, cap2, rfl, hb2, hO2, k2⟩
    rw [show i + (m + 1 - i) = m + 1 by omega] at hO2 ⊢
    obtain ⟨b2', sp2, e2, hB2, hl2, hc2⟩ := hO2.some_of (by have := hO2.2.1; omega)
    cases e2
    have hcap2 := hO2.2.1
    have hmax2 := hO2.2.2.1
    have z2 := k2.size
    have hv2 : Seg w2 bv 0 [x] := hvs.kp k2 (fun h => h) hv.lt
    have lab := hB.lt
    have hs2 : Seg w2 ab i (cs.drop i) := fun j hj => by
      rw [(hB.kp k2 fun h => h).cell, List.getElem?_append_left (by omega), List.getElem?_drop]
    (refine s_as ?_; refine AtR_nil ?_; refine At_seq ?_; refine At_region ?_; refine s_mv ?_; refine s_mv ?_)
    refine s_val (x_slice_fromN rfl rfl (by omega) (by omega)) ?_
    (refine s_mv ?_)
    refine AtR_go rfl (G_val (r_copy (vs := [x]) rfl rfl (by simp; omega) hB2 (by simp; simp at hl2; omega) hv2 hx1) ?_)
    rintro _ w3 ⟨rfl, e3⟩
    have B3 := e3.blk
    have k3 : Kp (fun j => j = b2) w2 w3 := e3.kp (.inl rfl)
    have hs3 : Seg w3 ab i (cs.drop i) := hs2.kp k3 (by omega) (by omega)
    have kd := Kp.drew (S := No) (w := w3)
    have hs4 : Seg w3.drew ab i (cs.drop i) := hs3.kp kd (fun h => h) (by have := k3.size; omega)
    (refine AtR_nil ?_; refine At_seq ?_)
    refine At_draw (fun _ => True) rfl ?_
    have hS : True := trivial
    (apply AtH_take 0 rfl (by decide +kernel) (by exact rfl); (focus (intro wx hx; skip; exact x_move (by conv => lhs; whnf))); (focus (exact hS)))
    (apply AtH_take 1 rfl (by decide +kernel) (by exact rfl); (focus (intro wx hx; skip; exact x_move (by conv => lhs; whnf))); (focus (exact hS)))
    (apply AtH_take 2 rfl (by decide +kernel) (by exact rfl); (focus (intro wx hx; skip; exact x_move (by conv => lhs; whnf))); (focus (exact hS)))
    (apply AtH_take 3 rfl (by decide +kernel) (by exact rfl); (focus (intro wx hx; skip; exact x_add64 rfl rfl (by omega) (by omega))); (focus (exact hS)))
    (apply AtH_take 5 rfl (by decide +kernel) (by exact rfl); (focus (intro wx hx; skip; exact x_move (by conv => lhs; whnf))); (focus (exact hS)))
    (apply AtH_take 6 rfl (by decide +kernel) (by exact rfl); (focus (intro wx hx; skip; exact x_move (by conv => lhs; whnf))); (focus (exact hS)))
    -- ready now: 4 slice 123 t46 (some t49) none none, 7 slice 123 t51 (some t52) none none
    refine AtH_take 4 rfl (by decide +kernel) rfl (fun wx hx => x_slice_fromN (l := i + 1) rfl rfl (by omega) (by omega)) hS ?_
    refine AtH_take 7 rfl (by decide +kernel) rfl (fun wx hx => x_slice_fromN (l := i) rfl rfl (by omega) (by omega)) hS ?_
    refine H_val 8 rfl (by decide +kernel) rfl (r_copy (vs := cs.drop i) rfl rfl (by omega) (B3.kp kd fun h => h) (by rw [lay_length (by simp; simp at hl2; omega)]; simp at hl2; simp; omega) (by rw [Nat.zero_add]; exact hs4) hd1) ?_
    rintro _ w5 ⟨rfl, e5⟩
    refine ⟨trivial, AtH_done (by decide +kernel) ?_⟩
    have B5 := e5.blk
    simp only [Nat.zero_add] at B5
    rw [show m + 1 - i = (m - i) + 1 by omega, lay_insert2 (by omega) (by omega)] at B5
    have k5 : Kp (fun j => j = b2) w3.drew w5 := e5.kp (.inl rfl)
    (refine At_seq ?_; refine At_region ?_; refine s_mv ?_; refine s_as ?_; refine AtR_nil ?_)
    refine At_ret1 Tryd.func68 rfl (by conv => lhs; whnf) ?_
    have hil := ins_len (x := x) (show i ≤ cs.length by omega)
    refine ⟨some ⟨b2, 0, none⟩, cap2, rfl, ⟨by omega, hcap2, hmax2, .inr ⟨b2, sp2, rfl, B5, ?_⟩⟩, fun j hj => by simp [blkOf] at hj; right; omega, ?_⟩
    · rw [List.length_append] at hl2 ⊢
      simp at hl2; omega
    · exact (((k2.mono fun _ h => h.elim).trans' k3 (by rintro j rfl; right; omega)).trans (kd.mono fun _ h => h.elim)).trans' k5 (by rintro j rfl; right; omega)
  · have hspl : (cs ++ sp).length = m + sp.length := by rw [List.length_append]; omega
    (refine s_eql ?_; refine AtR_nil ?_; refine At_cond_f rfl ?_; refine At_skip ?_; refine At_seq ?_; refine At_seq ?_; refine At_region ?_; refine s_mv ?_; refine s_mv ?_; refine s_ad ?_; refine s_mv ?_; refine s_cp ?_; refine s_gtr ?_; refine AtR_nil ?_; refine At_cond_f rfl ?_; refine At_skip ?_; refine At_seq ?_; refine At_region ?_; refine s_mv ?_; refine s_mv ?_; refine s_mv ?_; refine s_ad ?_; refine s_sl ?_; refine s_as ?_; refine AtR_nil ?_; refine At_seq ?_; refine At_seq ?_; refine At_region ?_; refine s_mv ?_; refine s_mv ?_; refine s_mv ?_; refine s_mv ?_; refine s_ad ?_)
    refine s_val (x_slice_fromN (l := i + 1) rfl rfl (by omega) (by omega)) ?_
    refine s_val (x_callX rfl (run_overlaps_no hv hB (Ne.symm hbv) (by omega))) ?_
    (refine s_nt ?_; refine AtR_nil ?_; refine At_cond_t rfl ?_; refine At_seq ?_)
    have kd := Kp.drew (S := No) (w := w)
    refine At_draw (fun _ => True) rfl ?_
    have hS : True := trivial
    (apply AtH_take 0 rfl (by decide +kernel) (by exact rfl); (focus (intro wx hx; skip; exact x_move (by conv => lhs; whnf))); (focus (exact hS)))
    (apply AtH_take 1 rfl (by decide +kernel) (by exact rfl); (focus (intro wx hx; skip; exact x_move (by conv => lhs; whnf))); (focus (exact hS)))
    (apply AtH_take 2 rfl (by decide +kernel) (by exact rfl); (focus (intro wx hx; skip; exact x_move (by conv => lhs; whnf))); (focus (exact hS)))
    (apply AtH_take 3 rfl (by decide +kernel) (by exact rfl); (focus (intro wx hx; skip; exact x_add64 rfl rfl (by omega) (by omega))); (focus (exact hS)))
    (apply AtH_take 5 rfl (by decide +kernel) (by exact rfl); (focus (intro wx hx; skip; exact x_move (by conv => lhs; whnf))); (focus (exact hS)))
    (apply AtH_take 6 rfl (by decide +kernel) (by exact rfl); (focus (intro wx hx; skip; exact x_move (by conv => lhs; whnf))); (focus (exact hS)))
    -- ready now: 4 slice 123 t69 (some t72) none none, 7 slice 123 t74 (some t75) none none
    refine AtH_take 4 rfl (by decide +kernel) rfl (fun wx hx => x_slice_fromN (l := i + 1) rfl rfl (by omega) (by omega)) hS ?_
    refine AtH_take 7 rfl (by decide +kernel) rfl (fun wx hx => x_slice_fromN (l := i) rfl rfl (by omega) (by omega)) hS ?_
    have hs2 : Seg w.drew ab (0 + i) (cs.drop i) := fun j hj => by
      rw [(hB.kp kd fun h => h).cell, List.getElem?_append_left (by omega), List.getElem?_drop, Nat.zero_add]
    refine H_val 8 rfl (by decide +kernel) rfl (r_copy (vs := cs.drop i) rfl rfl (by omega) (hB.kp kd fun h => h) (by omega) hs2 hd1) ?_
    rintro _ w3 ⟨rfl, e3⟩
    refine ⟨trivial, AtH_done (by decide +kernel) ?_⟩
    have B3 := e3.blk
    have k3 : Kp (fun j => j = ab) w.drew w3 := e3.kp (.inl rfl)
    have hv3 : Seg w3 bv 0 [x] := hvs.kp ((kd.mono fun _ h => h.elim).trans k3) (Ne.symm hbv) hv.lt
    (refine At_seq ?_; refine At_region ?_; refine s_mv ?_; refine s_mv ?_)
    refine s_val (x_slice_fromN rfl rfl (by omega) (by omega)) ?_
    (refine s_mv ?_)
    refine AtR_go rfl (G_val (r_copy (vs := [x]) rfl rfl (by simp; omega) B3 (by rw [lay_length (by omega)]; simp; omega) hv3 hx1) ?_)
    rintro _ w4 ⟨rfl, e4⟩
    have B4 := e4.blk
    simp only [Nat.zero_add] at B4
    rw [lay_insert (by omega) (by omega)] at B4
    have k4 : Kp (fun j => j = ab) w3 w4 := e4.kp (.inl rfl)
    (refine AtR_nil ?_; refine At_seq ?_; refine At_region ?_; refine s_mv ?_; refine s_as ?_; refine AtR_nil ?_)
    refine At_ret1 Tryd.func68 rfl (by conv => lhs; whnf) ?_
    have hil := ins_len (x := x) (show i ≤ cs.length by omega)
    refine ⟨some ⟨ab, 0, none⟩, cap, rfl, ⟨by omega, by omega, hmax, .inr ⟨ab, sp.drop 1, rfl, B4, ?_⟩⟩, fun j hj => .inl hj, ?_⟩
    · rw [List.length_append, List.length_drop]; omega
    · exact ((kd.mono fun _ h => h.elim).trans (k3.trans k4)).mono fun j hj => by subst hj; simp [blkOf]
end Go.Proofs.YtfngacepjcdlnaaDoor

namespace Go.Kx
open Go
theorem x_eql_ptrs {P : Program} {n : Nat} {env : Env} {w : World} {dst : Option Tmp} {ty : TypeId} {pos : String} {aft : Array Edge} {g : Option (Nat × Bool)} {T T' E A B : TypeId} {s : Nat} [hT : TU P T (.pointer E)] [hs : TSz P E s] {x y : Operand} {b b' : Nat} {cs cs' : List Value}
    (hx : ev n env x = .pointer (some ⟨b, 0, none⟩)) (hy : ev n env y = .pointer (some ⟨b', 0, none⟩)) (hb : Blk w b A (0, 0) cs) (hb' : Blk w b' B (0, 0) cs') (h0 : s ≠ 0) :
    Run P n env ⟨dst, .binOp .eql T x y T', ty, pos, aft, g⟩ w (.ok (.value (.bool (decide (b = b')))) w) := by
  have hp : P.underlying T = some (.pointer (P.pointee T)) := by simp [Program.pointee, hT.h]
  have hsa : (sameAddr ⟨b, 0, none⟩ ⟨b', 0, none⟩).run P w = .ok (decide (b = b')) w := by
    by_cases e : b = b'
    · subst e; rw [run_sameAddr_same]; simp
    · rw [run_sameAddr_other w (a := ⟨b, 0, none⟩) (b := ⟨b', 0, none⟩) (fun h => e (Addr.mk.inj h).1) (show w.heap[b]? = _ from hb) (show w.heap[b']? = _ from hb')]; simp [e]
  have heq : (Op.equal T (.pointer (some ⟨b, 0, none⟩)) (.pointer (some ⟨b', 0, none⟩))).run P w = .ok (decide (b = b')) w := by
    have key : ∀ d, (Op.equalIn (d + 1) T (.pointer (some ⟨b, 0, none⟩)) (.pointer (some ⟨b', 0, none⟩))).run P w = .ok (decide (b = b')) w := fun d => by
      simp only [Op.equalIn, Sem.run_bind, run_underlying hT.h, Result.andThen_ok, run_sizeOf hs.h]
      rw [if_pos h0]; exact hsa
    exact key 9999
  unfold Run
  simp [execOp, hx, hy, eqGuard_at_pointer, binOp, heq]
end Go.Kx
namespace Go.Proofs.YtfngacepjcdlnaaDoor
open Go Go.Kx Go.Kr
theorem del_calls (p q bc : Nat) (w : World) {cs cs' : List Value} (hc : Blk w bc 135 (0, 0) [.pointer (some ⟨q, 0, none⟩)]) (hp : Blk w p 137 (0, 0) cs) (hq : Blk w q 137 (0, 0) cs') :
    Calls Tryd.prog 113 #[.pointer (some ⟨p, 0, none⟩), .pointer (some ⟨bc, 0, none⟩)] w fun e w' => e = .returned (.bool (decide (p = q))) ∧ w = w' := by
  refine calls_at (n := 7) Tryd.func113 rfl rfl (by simp) ?_
  (refine At_seq ?_; refine At_region ?_; refine s_as ?_; refine AtR_nil ?_; refine At_seq ?_; refine At_region ?_; refine s_mv ?_; refine s_ld ?_)
  refine s_val (x_eql_ptrs rfl rfl hp hq (by decide)) ?_
  (refine s_as ?_; refine AtR_nil ?_)
  refine At_ret1 Tryd.func113 rfl (by conv => lhs; whnf) ?_
  exact ⟨rfl, rfl⟩
/-- The row's pointers are all others. -/
def Nod (xs : List En) : Prop := xs.Pairwise fun x y => x.p ≠ y.p
theorem nod_of {xs : List En} (h : xs.Pairwise apart) : Nod xs := h.imp fun h => h.1
theorem nod_ne {xs : List En} (h : Nod xs) {i j : Nat} (hi : i < xs.length) (hj : j < xs.length) (hne : i ≠ j) : (xs.getD i default).p ≠ (xs.getD j default).p := by
  have e1 : xs.getD i default = xs[i] := by simp [List.getD, hi]
  have e2 : xs.getD j default = xs[j] := by simp [List.getD, hj]
  rw [e1, e2]
  rcases Nat.lt_or_gt_of_ne hne with h1 | h1
  · exact List.pairwise_iff_getElem.1 h i j hi hj h1
  · exact (List.pairwise_iff_getElem.1 h j i hj hi h1).symm
set_option maxRecDepth 100000 in
theorem indexFunc_calls (xs : List En) (i0 bc : Nat) (a : Option Addr) (cap : Nat) (w : World) (hO : Own w 135 1 a xs.length cap (xs.map ptrE)) (hrow : ∀ x ∈ xs, ∃ cs, Blk w x.p 137 (0, 0) cs) (hn : Nod xs) (hi : i0 < xs.length) (hl : xs.length ≤ 1000)
    (hc : Blk w bc 135 (0, 0) [.pointer (some ⟨(xs.getD i0 default).p, 0, none⟩)]) :
    Calls Tryd.prog 123 #[.slice a xs.length cap, .func (.func 113) #[] #[.pointer (some ⟨bc, 0, none⟩)]] w fun e w' => e = .returned (.int .i64 (i0 : Int)) ∧ w = w' := by
  obtain ⟨ab, sp, rfl, hB, hBl, hcl⟩ := hO.some_of (by have := hO.2.1; omega)
  have hseg := own_seg hO
  refine calls_at (n := 19) Tryd.func123 rfl rfl (by simp) ?_
  (refine At_seq ?_; refine At_region ?_; refine s_as ?_; refine AtR_nil ?_; refine At_seq ?_; refine At_seq ?_; refine At_region ?_; refine s_mv ?_; refine s_ln ?_; refine s_mv ?_; refine AtR_nil ?_; refine At_block ?_)
  refine At_while (fun i : Nat => [(0, .slice (some ⟨ab, 0, none⟩) xs.length cap), (1, .func (.func 113) #[] #[.pointer (some ⟨bc, 0, none⟩)]), (7, .int .i64 (xs.length : Int)), (8, .int .i64 (i : Int))])
    (fun i w' => i ≤ i0 ∧ w = w') (fun i => xs.length - i) 0 ⟨rfl, rfl, rfl, rfl, trivial⟩ ⟨by omega, rfl⟩ ?_
  rintro i _ junk ⟨hii, rfl⟩ again
  (refine At_seq ?_; refine At_region ?_; refine s_lss ?_; refine AtR_nil ?_; refine At_seq ?_; refine At_cond_t rfl ?_; refine At_skip ?_; refine At_seq ?_; refine At_block ?_; refine At_seq ?_; refine At_region ?_; refine s_mv ?_; refine s_as ?_; refine AtR_nil ?_; refine At_seq ?_; refine At_region ?_; refine s_mv ?_; refine s_mv ?_; refine s_mv ?_; refine s_ia ?_)
  refine s_val (x_load_ptr rfl hseg (by omega)) ?_
  obtain ⟨cs1, h1⟩ := hrow _ (mem_getD (xs := xs) (i := i) (by omega))
  obtain ⟨cs2, h2⟩ := hrow _ (mem_getD (xs := xs) (i := i0) (by omega))
  refine s_call (x_callV (lb := [_]) rfl) (del_calls _ _ bc _ hc h1 h2) ?_
  rintro _ _ ⟨rfl, rfl⟩
  refine ⟨_, rfl, ?_⟩
  by_cases he : i = i0
  · subst he
    rw [decide_eq_true rfl]
    (refine AtR_nil ?_; refine At_cond_t rfl ?_; refine At_seq ?_; refine At_region ?_; refine s_mv ?_; refine s_as ?_; refine AtR_nil ?_)
    refine At_ret1 Tryd.func123 rfl (by conv => lhs; whnf) ?_
    exact ⟨rfl, rfl⟩
  · rw [decide_eq_false (nod_ne hn (by omega) hi he)]
    (refine AtR_nil ?_; refine At_cond_f rfl ?_; refine At_skip ?_; refine At_inBlock ?_; refine At_region ?_; refine s_ad ?_; refine s_mv ?_; refine AtR_nil ?_)
    exact again (i + 1) _ _ ⟨rfl, rfl, rfl, rfl, trivial⟩ ⟨by omega, rfl⟩ (by omega)
/-- The row behind the moves up to j. -/
def rowTo (xs : List En) (i0 j : Nat) : List En := (List.range xs.length).map fun k => if k < i0 then xs.getD k default else if k + 1 < j then xs.getD (k + 1) default else xs.getD k default
theorem rowTo_length (xs : List En) (i0 j : Nat) : (rowTo xs i0 j).length = xs.length := by simp [rowTo]
theorem rowTo_get {xs : List En} {i0 j k : Nat} (h : k < xs.length) : (rowTo xs i0 j).getD k default = if k < i0 then xs.getD k default else if k + 1 < j then xs.getD (k + 1) default else xs.getD k default := by
  simp [rowTo, List.getD, h]
theorem rowTo_first (xs : List En) (i0 : Nat) : rowTo xs i0 (i0 + 1) = xs := by
  apply List.ext_getElem (by simp [rowTo])
  intro k h1 h2
  simp only [rowTo, List.getElem_map, List.getElem_range]
  have e : xs.getD k default = xs[k] := by simp [List.getD, h2]
  split
  · exact e
  · rw [if_neg (by omega)]; exact e
theorem rowTo_step {xs : List En} {i0 j : Nat} (h0 : i0 < j) (hj : j < xs.length) : (rowTo xs i0 j).set (j - 1) (xs.getD j default) = rowTo xs i0 (j + 1) := by
  apply List.ext_getElem (by simp [rowTo])
  intro k h1 h2
  rw [List.getElem_set]
  simp only [rowTo, List.getElem_map, List.getElem_range]
  split
  · rename_i he; subst he
    rw [if_neg (by omega), if_pos (by omega)]
    congr 1; omega
  · split
    · rfl
    · by_cases h3 : k + 1 < j
      · rw [if_pos h3, if_pos (by omega)]
      · rw [if_neg h3, if_neg (by omega)]
theorem rowTo_end {xs : List En} {i0 : Nat} (h0 : i0 < xs.length) : (rowTo xs i0 xs.length).take (xs.length - 1) = xs.eraseIdx i0 := by
  apply List.ext_getElem (by simp [rowTo, List.length_eraseIdx, h0])
  intro k h1 h2
  simp only [List.length_take, rowTo_length] at h1
  rw [List.getElem_take, List.getElem_eraseIdx]
  simp only [rowTo, List.getElem_map, List.getElem_range]
  split
  · simp [List.getD, show k < xs.length by omega]
  · rw [if_pos (by omega)]
    simp [List.getD, show k + 1 < xs.length by omega]
set_option maxRecDepth 100000 in
set_option maxHeartbeats 2000000 in
theorem deleteFunc_calls (xs : List En) (i0 bc : Nat) (a : Option Addr) (cap : Nat) (w : World) (hO : Own w 135 1 a xs.length cap (xs.map ptrE)) (hrow : ∀ x ∈ xs, ∃ cs, Blk w x.p 137 (0, 0) cs) (hn : Nod xs) (hi : i0 < xs.length) (hl : xs.length ≤ 1000)
    (hc : Blk w bc 135 (0, 0) [.pointer (some ⟨(xs.getD i0 default).p, 0, none⟩)]) (hbc : ¬ blkOf a bc) :
    Calls Tryd.prog 112 #[.slice a xs.length cap, .func (.func 113) #[] #[.pointer (some ⟨bc, 0, none⟩)]] w
      fun e w' => e = .returned (.slice a (xs.length - 1) cap) ∧ Own w' 135 1 a (xs.length - 1) cap ((xs.eraseIdx i0).map ptrE) ∧ Kp (blkOf a) w w' := by
  have hcap := hO.2.1
  have hmax := hO.2.2.1
  obtain ⟨ab, sp, rfl, hB, hBl, hcl⟩ := hO.some_of (by omega)
  have hsp := hO.spot
  have hnb : bc ≠ ab := fun h => hbc (by simp [blkOf, h])
  have hrw : ∀ x ∈ xs, x.p ≠ ab := fun x hx => by obtain ⟨_, h⟩ := hrow x hx; exact h.ne hB (by decide)
  have hspl : sp.length = cap - xs.length := by simp at hBl; omega
  refine calls_at (n := 42) Tryd.func112 rfl rfl (by simp) ?_
  (refine At_seq ?_; refine At_region ?_; refine s_as ?_; refine AtR_nil ?_; refine At_seq ?_; refine At_region ?_; refine s_mv ?_; refine s_mv ?_)
  refine s_call x_call (indexFunc_calls xs i0 bc _ cap _ hO hrow hn hi hl hc) ?_
  rintro _ _ ⟨rfl, rfl⟩
  refine ⟨_, rfl, ?_⟩
  (refine s_as ?_; refine AtR_nil ?_; refine At_seq ?_; refine At_seq ?_; refine At_region ?_; refine s_mv ?_; refine s_eql ?_; refine AtR_nil ?_; refine At_cond_f rfl ?_; refine At_skip ?_; refine At_seq ?_; refine At_seq ?_; refine At_region ?_; refine s_mv ?_; refine s_ad ?_; refine s_as ?_; refine AtR_nil ?_; refine At_block ?_)
  refine At_while (fun j : Nat => [(0, .slice (some ⟨ab, 0, none⟩) xs.length cap), (1, .func (.func 113) #[] #[.pointer (some ⟨bc, 0, none⟩)]), (5, .int .i64 ((j - 1 : Nat) : Int)), (6, .int .i64 (j : Int))])
    (fun j w' => i0 < j ∧ j ≤ xs.length ∧ Blk w' ab 135 (0, 0) ((rowTo xs i0 j).map ptrE ++ sp) ∧ Kp (fun k => k = ab) w w') (fun j => xs.length - j) (i0 + 1) ⟨rfl, rfl, rfl, rfl, trivial⟩ ⟨by omega, by omega, by rw [rowTo_first]; exact hB, Kp.refl _ _⟩ ?_
  rintro j w2 junk ⟨hj0, hj, B2, K2⟩ again
  have hrl := rowTo_length xs i0 j
  by_cases hlt : j < xs.length
  · have hs2 : Seg w2 ab 0 ((rowTo xs i0 j).map ptrE) := fun k hk => by rw [Nat.zero_add, B2.cell, List.getElem?_append_left hk]
    (refine At_seq ?_; refine At_seq ?_; refine At_region ?_; refine s_mv ?_; refine s_mv ?_; refine s_ln ?_; refine s_lss ?_; refine AtR_nil ?_; refine At_cond_t rfl ?_; refine At_skip ?_; refine At_seq ?_; refine At_block ?_; refine At_seq ?_; refine At_region ?_; refine s_mv ?_; refine s_mv ?_; refine s_ia ?_)
    refine s_val (x_load_ptr rfl hs2 (by omega)) ?_
    have e : (rowTo xs i0 j).getD j default = xs.getD j default := by rw [rowTo_get hlt, if_neg (by omega), if_neg (by omega)]
    rw [e]
    obtain ⟨cs1, h1⟩ := hrow _ (mem_getD (xs := xs) hlt)
    obtain ⟨cs2, h2⟩ := hrow _ (mem_getD (xs := xs) hi)
    (refine s_as ?_; refine AtR_nil ?_; refine At_seq ?_; refine At_region ?_; refine s_mv ?_; refine s_mv ?_)
    refine s_call (x_callV (lb := [_]) rfl) (del_calls _ _ bc _ (hc.kp K2 hnb) (h1.kp K2 (hrw _ (mem_getD hlt))) (h2.kp K2 (hrw _ (mem_getD hi)))) ?_
    rintro _ _ ⟨rfl, rfl⟩
    refine ⟨_, rfl, ?_⟩
    rw [decide_eq_false (nod_ne hn hlt hi (by omega))]
    (refine s_nt ?_; refine AtR_nil ?_; refine At_cond_t rfl ?_; refine At_seq ?_; refine At_region ?_; refine s_mv ?_; refine s_mv ?_; refine s_mv ?_; refine s_ia ?_)
    refine AtR_go rfl (G_skip (r_store1 (v := .pointer (some ⟨(xs.getD j default).p, 0, none⟩)) rfl rfl B2 (by simp; omega) rfl rfl) fun w3 e3 => ?_)
    have hset : ((rowTo xs i0 j).map ptrE ++ sp).set (0 + (j - 1)) (.pointer (some ⟨(xs.getD j default).p, 0, none⟩)) = (rowTo xs i0 (j + 1)).map ptrE ++ sp := by
      rw [Nat.zero_add, List.set_append_left _ _ (by simp; omega), ← rowTo_step hj0 hlt, List.map_set]; rfl
    rw [hset] at e3
    (refine AtR_nil ?_; refine At_region ?_; refine s_mv ?_; refine s_ad ?_; refine s_as ?_; refine AtR_nil ?_; refine At_inBlock ?_; refine At_region ?_; refine s_mv ?_; refine s_ad ?_; refine s_as ?_; refine AtR_nil ?_)
    refine again (j + 1) _ _ ⟨rfl, rfl, ?_, rfl, trivial⟩ ⟨by omega, hlt, e3.blk, K2.trans (e3.kp (.inl rfl))⟩ (by omega)
    show Value.int .i64 (((j - 1 : Nat) : Int) + 1) = .int .i64 ((j + 1 - 1 : Nat) : Int)
    congr 1; omega
  have hje : j = xs.length := by omega
  subst hje
  clear again
  (refine At_seq ?_; refine At_seq ?_; refine At_region ?_; refine s_mv ?_; refine s_mv ?_; refine s_ln ?_; refine s_lss ?_; refine AtR_nil ?_; refine At_cond_f rfl ?_; refine At_exit rfl ?_; refine At_seq ?_; refine At_region ?_; refine s_mv ?_; refine s_mv ?_)
  refine s_val (x_slice_fromN (l := xs.length - 1) rfl rfl (by omega) (by omega)) ?_
  refine AtR_go rfl (G_val (r_clear (z := .pointer none) rfl (by omega) B2 (by simp; omega) rfl) ?_)
  rintro _ w3 ⟨rfl, e3⟩
  (refine AtR_nil ?_; refine At_seq ?_; refine At_region ?_; refine s_mv ?_; refine s_mv ?_; refine s_sl ?_; refine s_as ?_; refine AtR_nil ?_)
  refine At_ret1 Tryd.func112 rfl (by conv => lhs; whnf) ?_
  refine ⟨by congr 1, ⟨by simp [List.length_eraseIdx, hi], by omega, hmax, .inr ⟨ab, lay ((rowTo xs i0 xs.length).map ptrE ++ sp) (0 + (xs.length - 1)) (List.replicate (xs.length - (xs.length - 1)) (.pointer none)) |>.drop (xs.length - 1), rfl, ?_, ?_⟩⟩, ?_⟩
  · have h1 := e3.blk
    have e : (xs.eraseIdx i0).map ptrE = (lay ((rowTo xs i0 xs.length).map ptrE ++ sp) (0 + (xs.length - 1)) (List.replicate (xs.length - (xs.length - 1)) (.pointer none))).take (xs.length - 1) := by
      rw [Nat.zero_add, lay_take (by simp; omega), List.take_append_of_le_length (by simp; omega), ← List.map_take, rowTo_end hi]
    rw [e, List.take_append_drop]; exact h1
  · simp only [List.length_append, List.length_drop, List.length_map]
    rw [lay_length (by simp; omega)]
    simp [List.length_eraseIdx, hi]; omega
  · exact (K2.trans (e3.kp (.inl rfl))).mono fun k hk => by subst hk; simp [blkOf]
end Go.Proofs.YtfngacepjcdlnaaDoor
