/- Two trees in one store: what they tell, and how many sectors they need. Own work. | The document's pointers out of octets. | Trees: wrong arguments; an empty tree cut. -/
import Derived.Test.YtfngacepjcdlnaaDoorMMi
import Derived.Test.YtfngacepjcdlnaaDoorMTb
import Derived.Test.YtfngacepjcdlnaaDoorMNa
import Derived.Test.YtfngacepjcdlnaaDoorMKb
set_option linter.unusedVariables false
namespace Go.Mt
open Go Go.Kx Go.Proofs.YtfngacepjcdlnaaDoor
theorem Tree.count {key name : List UInt8} {st : St} {r : Pr} {d : Nat} {f : Nat → Option (List UInt8)} {S : List Nat} (h : Tree key name st r d f S) : S.length = cnt f d 0 := h.rep.len
/-- A number brought below m. -/
def wrapN (x : Int) (m : Nat) : Nat := ((x.tmod m + m).tmod m).toNat
theorem wrapN_val {x : Int} {m : Nat} (h : 0 < m) : (x.tmod m + m).tmod m = (wrapN x m : Int) ∧ wrapN x m < m ∧ -(m : Int) < x.tmod m ∧ x.tmod m < m := by
  have h1 := rem_gt (a := x) (b := (m : Int)) (by omega)
  have h2 := rem_lt (a := x) (b := (m : Int)) (by omega)
  have h3 := rem_lt (a := x.tmod m + m) (b := (m : Int)) (by omega)
  have h4 := Int.tmod_nonneg (m : Int) (show 0 ≤ x.tmod m + m by omega)
  unfold wrapN
  exact ⟨by omega, by omega, h1, h2⟩
/-- A block of a number. -/
def blN (k : Nat) : List UInt8 := blockB (UInt8.ofNat (1 + k % 250))
def blks (l : List Nat) : Nat → Option (List UInt8) := fun j => if j ∈ l then some (blN j) else none
theorem upd_blks (l : List Nat) (k : Nat) : upd (blks l) k (some (blN k)) = blks (l ++ [k]) := by
  funext j
  unfold upd blks
  by_cases h : j = k
  · rw [if_pos h, if_pos (by rw [h]; simp), h]
  · rw [if_neg h]
    by_cases h2 : j ∈ l
    · rw [if_pos h2, if_pos (List.mem_append_left _ h2)]
    · rw [if_neg h2, if_neg fun h3 => (List.mem_append.1 h3).elim h2 fun h4 => h (by simpa using h4)]
theorem set_count : ∀ (l : List Bool) (i : Nat), (l.set i false).count true ≤ l.count true
  | [], _ => by simp
  | x :: l, 0 => by rw [List.set_cons_zero, List.count_cons, List.count_cons]; simp
  | x :: l, i + 1 => by rw [List.set_cons_succ, List.count_cons, List.count_cons]; have := set_count l i; omega
theorem drop_count (st : St) (m : Nat) : (st.drop m).count ≤ st.count := by
  unfold St.drop St.count
  split
  · exact set_count _ _
  · exact Nat.le_refl _
theorem dropAll_count : ∀ (l : List Nat) (st : St), (dropAll st l).count ≤ st.count
  | [], st => Nat.le_refl _
  | m :: l, st => Nat.le_trans (dropAll_count l (st.drop m)) (drop_count st m)
theorem putT_count {key name : List UInt8} {st : St} {r : Pr} {d i : Nat} {b : List UInt8} {f : Nat → Option (List UInt8)} {S : List Nat} (ht : Tree key name st r d f S) (ho : st.ok) (hi : i < roomN 5) (hb : st.b.length ≤ 999000) :
    (putS key name st r d i b).count ≤ st.count + 11 := by
  have hdeep := deep_rep (key := key) (name := name) hi (u := 5 - d) (d := d) (r := r) (ch := ⟨st, [], []⟩) (f := f) (S := S) (by have := ht.le; omega) ht.rep ht.out ho ⟨by simp only; omega, by simp; omega, by simp; omega⟩
  unfold putS putT
  generalize deepP key name i (5 - d) d r ⟨st, [], []⟩ = D at *
  obtain ⟨⟨r', d', c⟩, ch⟩ := D
  simp only at hdeep ⊢
  obtain ⟨N, s1, n1, s2⟩ := hdeep
  have hcnt : ∀ {ch' : Ch} {N' G' : List Nat} (l : List Nat), Step ⟨st, [], []⟩ ch' N' G' → N'.length ≤ 11 → (dropAll ch'.st l).count ≤ st.count + 11 := fun {ch' N' G'} l hs hn => by
    have h1 := dropAll_count l ch'.st
    have h2 := hs.1.count
    simp only at h2
    omega
  rcases s2 with ⟨rfl, S1, r1, r2, r3, r4, r5, r6⟩ | ⟨rfl, c2⟩
  · simp only [if_true]
    obtain ⟨N2, G2, t1, n2, g2, _⟩ := put_rep (b := b) r1 (Nat.zero_le i) (by omega) (s1.1.ok ho) (by
      have h1 := s1.1.len
      have h2 := s1.2.1
      have h3 := s1.2.2
      simp only [List.nil_append] at h2 h3 h1
      exact ⟨by omega, by rw [h2]; omega, by rw [h3]; simp; omega⟩)
    exact hcnt _ (s1.trans t1) (by simp; omega)
  · simp only [show ¬ (12 : Nat) = 0 by omega, if_false]
    exact hcnt _ s1 (by omega)
/-- A tree is no deeper than it needs. -/
def Top (f : Nat → Option (List UInt8)) (d : Nat) : Prop := d = 0 ∨ ∃ j, f j ≠ none ∧ roomN (d - 1) ≤ j
theorem Held.swap {st : St} {A B : List Nat} (h : Held st (A ++ B)) : Held st (B ++ A) := ⟨h.1, fun a => by have := h.2 a; rw [List.count_append] at *; omega⟩
/-- A block put where there is room. -/
theorem put_more {key name : List UInt8} {st : St} {r : Pr} {d i : Nat} {b : List UInt8} {f : Nat → Option (List UInt8)} {S X : List Nat} (ht : Tree key name st r d f S) (htop : Top f d) (hH : Held st (S ++ X)) (hi : i < roomN 5) (hb : st.b.length ≤ 999000) (hr : st.count + 11 < st.room) :
    (putT key name st r d i b).1.2.2 = 0 ∧ ∃ S', Tree key name (putS key name st r d i b) (putT key name st r d i b).1.1 (putT key name st r d i b).1.2.1 (upd f i (some b)) S' ∧ Top (upd f i (some b)) (putT key name st r d i b).1.2.1 ∧ Held (putS key name st r d i b) (S' ++ X) ∧
      (putS key name st r d i b).count ≤ st.count + 11 ∧ (∀ n ∈ X, ∀ x, st.at n = some x → (putS key name st r d i b).at n = some x) ∧ (putS key name st r d i b).b.length ≤ st.b.length + 12 ∧ (putS key name st r d i b).room = st.room := by
  obtain ⟨h1, h2, h3, h4⟩ := putT_rep (b := b) ht hH hi hb
  have h5 := putT_count (b := b) ht hH.1 hi hb
  rcases h4 with ⟨c, S', a1, a2, a3, a4⟩ | ⟨_, _, _, h⟩
  · refine ⟨c, S', a1, ?_, a2, h5, h1, h2, h3⟩
    rcases a4 with e | ⟨e1, e2⟩
    · rw [e]
      rcases htop with h | ⟨j, h, h'⟩
      · exact .inl h
      · refine .inr ⟨j, ?_, h'⟩
        unfold upd
        split
        · simp
        · exact h
    · exact .inr ⟨i, by simp [upd], e2⟩
  · omega
/-- Two trees in one store. -/
structure Two (key name : List UInt8) (st : St) (r r2 : Pr) (d d2 : Nat) (l l2 : List Nat) : Prop where
  ex : ∃ S S2, Tree key name st r d (blks l) S ∧ Top (blks l) d ∧ Tree key name st r2 d2 (blks l2) S2 ∧ Top (blks l2) d2 ∧ Held st (S ++ S2)
  count : st.count ≤ 11 * (l.length + l2.length)
  room : st.room = 200
  len : st.b.length ≤ 12 * (l.length + l2.length)
theorem two_new (key name : List UInt8) : Two key name (St.new 200) Pr.zero Pr.zero 0 0 [] [] :=
  ⟨⟨[], [], tree_nil key name _, .inl rfl, tree_nil key name _, .inl rfl, held_new 200⟩, Nat.le_refl _, rfl, Nat.le_refl _⟩
theorem Two.swap {key name : List UInt8} {st : St} {r r2 : Pr} {d d2 : Nat} {l l2 : List Nat} (h : Two key name st r r2 d d2 l l2) : Two key name st r2 r d2 d l2 l := by
  obtain ⟨⟨S, S2, h1, h2, h3, h4, h5⟩, h6, h7, h8⟩ := h
  exact ⟨⟨S2, S, h3, h4, h1, h2, h5.swap⟩, by omega, h7, by omega⟩
theorem Two.put {key name : List UInt8} {st : St} {r r2 : Pr} {d d2 : Nat} {l l2 : List Nat} (h : Two key name st r r2 d d2 l l2) {k : Nat} (hk : k < 3000) (hl : l.length + l2.length ≤ 15) :
    (putT key name st r d k (blN k)).1.2.2 = 0 ∧ Two key name (putS key name st r d k (blN k)) (putT key name st r d k (blN k)).1.1 r2 (putT key name st r d k (blN k)).1.2.1 d2 (l ++ [k]) l2 := by
  obtain ⟨⟨S, S2, h1, h2, h3, h4, h5⟩, h6, h7, h8⟩ := h
  have h5r : roomN 5 = 537824 := rfl
  obtain ⟨c, S', a1, a2, a3, a4, a5, a6, a7⟩ := put_more (b := blN k) h1 h2 h5 (i := k) (by omega) (by omega) (by omega)
  rw [upd_blks] at a1 a2
  refine ⟨c, ⟨S', S2, a1, a2, h3.sub a5, h4, a3⟩, ?_, by rw [a7]; exact h7, ?_⟩
  · rw [List.length_append, List.length_singleton]; omega
  · rw [List.length_append, List.length_singleton]; omega
theorem Top.uniq {f : Nat → Option (List UInt8)} {d d2 : Nat} (h1 : Top f d) (h2 : Top f d2) (o1 : ∀ j, roomN d ≤ j → f j = none) (o2 : ∀ j, roomN d2 ≤ j → f j = none) : d = d2 := by
  have key1 : ∀ {a b : Nat}, Top f b → (∀ j, roomN a ≤ j → f j = none) → ¬ a < b := fun {a b} h o hl => by
    rcases h with h | ⟨j, h, h'⟩
    · omega
    · apply h
      apply o
      have : roomN a ≤ roomN (b - 1) := Nat.pow_le_pow_right (by omega) (by omega)
      omega
  have := key1 h1 o2
  have := key1 h2 o1
  omega
/-- The same blocks: as many sectors, as deep. -/
theorem Two.same {key name : List UInt8} {st : St} {r r2 : Pr} {d d2 : Nat} {l l2 : List Nat} (h : Two key name st r r2 d d2 l l2) (hl : ∀ j, j ∈ l ↔ j ∈ l2) :
    d = d2 ∧ ∃ S S2, secT key name st r (d : Int) = (0, S) ∧ secT key name st r2 (d2 : Int) = (0, S2) ∧ S.length = S2.length := by
  obtain ⟨⟨S, S2, h1, h2, h3, h4, h5⟩, h6, h7, h8⟩ := h
  have e : blks l = blks l2 := by
    funext j
    unfold blks
    by_cases hj : j ∈ l
    · rw [if_pos hj, if_pos ((hl j).1 hj)]
    · rw [if_neg hj, if_neg fun h => hj ((hl j).2 h)]
  rw [← e] at h3 h4
  have hd := h2.uniq h4 h1.out h3.out
  refine ⟨hd, S, S2, h1.secT, h3.secT, ?_⟩
  rw [h1.count, h3.count, hd]
/-- Numbers told one further, all round. -/
theorem rot_mem {n s : Nat} {g : Nat → Nat} (hs : s < n) : ∀ j, j ∈ (List.range n).map g ↔ j ∈ (List.range n).map fun i => g ((i + s) % n) := by
  intro j
  simp only [List.mem_map, List.mem_range]
  constructor
  · rintro ⟨i, hi, rfl⟩
    refine ⟨(i + n - s) % n, Nat.mod_lt _ (by omega), ?_⟩
    rw [Nat.mod_add_mod, show i + n - s + s = i + n by omega, Nat.add_mod_right, Nat.mod_eq_of_lt hi]
  · rintro ⟨i, hi, rfl⟩
    exact ⟨(i + s) % n, Nat.mod_lt _ (by omega), rfl⟩
theorem map_snoc (g : Nat → Nat) (i : Nat) : (List.range i).map g ++ [g i] = (List.range (i + 1)).map g := by rw [List.range_succ, List.map_append]; rfl
end Go.Mt
namespace Go.Mt
open Go Go.Kx Go.Proofs.YtfngacepjcdlnaaDoor
theorem putT_wf {key name : List UInt8} {st : St} {r r2 : Pr} {d d2 : Nat} {l l2 : List Nat} (h : Two key name st r r2 d d2 l l2) {k : Nat} (hk : k < 3000) (hl : l.length + l2.length ≤ 15) : (putT key name st r d k (blN k)).1.1.wf := by
  obtain ⟨_, ⟨⟨S, S2, h1, h2, h3, h4, h5⟩, h6, h7, h8⟩⟩ := h.put hk hl
  rw [List.length_append, List.length_singleton] at h8
  exact h1.wf (by omega)
end Go.Mt

namespace Go.Mt
open Go Go.Kx Go.Proofs.YtfngacepjcdlnaaDoor
def macTo (l : List UInt8) (i : Nat) : List UInt8 := (List.range 32).map fun j => if j < i then l.getD (4 + j) 0 else 0
theorem macTo_length (l : List UInt8) (i : Nat) : (macTo l i).length = 32 := by simp [macTo]
theorem macTo_step (l : List UInt8) (i : Nat) (h : i < 32) : (macTo l i).set i (l.getD (4 + i) 0) = macTo l (i + 1) := by
  apply List.ext_getElem (by simp [macTo])
  intro p h1 h2
  rw [List.getElem_set]
  simp only [macTo, List.getElem_map, List.getElem_range]
  by_cases e : i = p
  · subst e; rw [if_pos rfl, if_pos (by omega)]
  · rw [if_neg e]
    by_cases e2 : p < i
    · rw [if_pos e2, if_pos (by omega)]
    · rw [if_neg e2, if_neg (by omega)]
theorem macTo_zero (l : List UInt8) : macTo l 0 = List.replicate 32 0 := by
  apply List.ext_getElem (by simp [macTo])
  intro p h1 h2
  rw [List.getElem_replicate]
  simp [macTo]
theorem macTo_all {l : List UInt8} (h : l.length = 36) : macTo l 32 = l.drop 4 := by
  apply List.ext_getElem (by simp [macTo, h])
  intro p h1 h2
  simp only [macTo, List.getElem_map, List.getElem_range, List.getElem_drop]
  have hp : p < 32 := by simpa [macTo] using h1
  rw [if_pos hp]
  simp [List.getD, show 4 + p < l.length by omega]
theorem mac_zero {l : List UInt8} (h : l.length = 36) : (∀ j, j < 32 → l.getD (4 + j) 0 = 0) ↔ l.drop 4 = List.replicate 32 0 := by
  rw [← macTo_all h, ← macTo_zero l]
  constructor
  · intro hz
    apply List.map_congr_left
    intro j hj
    rw [if_pos (List.mem_range.1 hj), if_neg (by omega), hz j (List.mem_range.1 hj)]
  · intro e j hj
    have := congrArg (fun m => m.getD j 1) e
    simpa [macTo, List.getD, hj] using this
theorem layN_numB {l : List UInt8} (h : l.length = 4) : layN (numB l) 4 = l := by
  match l, h with
  | [a, b, c, d], _ =>
    have ha := a.toNat_lt
    have hb := b.toNat_lt
    have hc := c.toNat_lt
    have hd := d.toNat_lt
    simp only [layN, numB, List.range_succ, List.range_zero, List.nil_append, List.cons_append, List.map_cons, List.map_nil, List.foldl_cons, List.foldl_nil, List.cons.injEq, and_true]
    refine ⟨?_, ?_, ?_, ?_⟩ <;> (apply UInt8.toNat_inj.1; rw [UInt8.toNat_ofNat']; simp only [Nat.reduceSub, Nat.reduceMul, Nat.reducePow]; omega)
theorem packB_un {l : List UInt8} (h : l.length = 36) : packB (unB l) = l := by
  unfold packB unB
  rw [layN_numB (by simp [h]), List.take_append_drop]
end Go.Mt
namespace Go.Proofs.YtfngacepjcdlnaaDoor
open Go Go.Kx Go.Kr Go.Mt
theorem oct_get {l : List UInt8} {i : Nat} (h : i < l.length) : (ints .u8 (bs8 l))[i]? = some (.int .u8 (ub (l.getD i 0))) := by simp [ints, bs8, List.getD, h]
set_option maxRecDepth 100000 in
set_option maxHeartbeats 4000000 in
theorem numR_calls (l : List UInt8) (a : Option Addr) (len cap : Nat) (w : World) {D : Nat → Prop} (hs : SlE w .u8 a len cap (bs8 l) D) (hl : len ≤ 7) :
    Calls Tryd.prog 96 #[.slice a len cap] w fun e w' => e = .returned (.int .i64 (numB l : Nat)) ∧ w = w' := by
  have hll := hs.len_eq
  simp only [bs8_length] at hll
  subst hll
  refine calls_at (n := 21) Tryd.func96 rfl rfl (by simp) ?_
  (refine At_seq ?_; refine At_region ?_; refine s_as ?_; refine AtR_nil ?_; refine At_seq ?_; refine At_region ?_; refine s_as ?_; refine AtR_nil ?_; refine At_seq ?_; refine At_seq ?_; refine At_region ?_; refine s_as ?_; refine AtR_nil ?_; refine At_block ?_)
  refine At_while (fun i : Nat => [(0, .slice a l.length cap), (3, .int .u64 ((numB (l.take i) : Nat) : Int)), (4, .int .i64 (i : Int))])
    (fun i w' => i ≤ l.length ∧ w = w') (fun i => l.length - i) 0 ⟨rfl, rfl, rfl, trivial⟩ ⟨by omega, rfl⟩ ?_
  rintro i w2 junk ⟨hi, rfl⟩ again
  have hb := numB_lt l i hi
  by_cases hlt : i < l.length
  · rcases hs.mem with h0 | ⟨b, off, rfl, _, _, hseg⟩
    · have := hs.le; omega
    have h7 : 256 ^ i ≤ 256 ^ 6 := Nat.pow_le_pow_right (by omega) (by omega)
    have hc := (l.getD i 0).toNat_lt
    (refine At_seq ?_; refine At_seq ?_; refine At_region ?_; refine s_mv ?_; refine s_mv ?_; refine s_ln ?_; refine s_lss ?_; refine AtR_nil ?_; refine At_cond_t rfl ?_; refine At_skip ?_; refine At_seq ?_; refine At_block ?_; refine At_region ?_; refine s_mv ?_)
    have hb2 := numB_lt l (i + 1) (by omega)
    have hsn := numB_snoc l i hlt
    have h72 : 256 ^ (i + 1) ≤ 256 ^ 7 := Nat.pow_le_pow_right (by omega) (by omega)
    refine s_val (x_mul rfl rfl) ?_
    rw [show ((numB (l.take i) : Nat) : Int) * 256 = ((numB (l.take i) * 256 : Nat) : Int) by omega, u64_nat (by omega)]
    (refine s_mv ?_; refine s_mv ?_; refine s_ia ?_)
    refine s_val (x_load_seg rfl hseg (oct_get hlt)) ?_
    (refine s_cv ?_)
    rw [show IntKind.u64.wrap (ub (l.getD i 0)) = (((l.getD i 0).toNat : Nat) : Int) from u64_nat (by omega)]
    refine s_val (x_add rfl rfl) ?_
    rw [show ((numB (l.take i) * 256 : Nat) : Int) + (((l.getD i 0).toNat : Nat) : Int) = ((numB (l.take (i + 1)) : Nat) : Int) by omega, u64_nat (by omega)]
    (refine s_as ?_; refine AtR_nil ?_; refine At_inBlock ?_; refine At_region ?_; refine s_mv ?_; refine s_ad ?_; refine s_as ?_; refine AtR_nil ?_)
    exact again (i + 1) _ _ ⟨rfl, rfl, rfl, trivial⟩ ⟨hlt, rfl⟩ (by omega)
  have hie : i = l.length := by omega
  clear again
  subst hie
  rw [List.take_length] at hb ⊢
  have hb7 : 256 ^ l.length ≤ 256 ^ 7 := Nat.pow_le_pow_right (by omega) hl
  (refine At_seq ?_; refine At_seq ?_; refine At_region ?_; refine s_mv ?_; refine s_mv ?_; refine s_ln ?_; refine s_lss ?_; refine AtR_nil ?_; refine At_cond_f rfl ?_; refine At_exit rfl ?_; refine At_seq ?_; refine At_region ?_; refine s_mv ?_; refine s_cv ?_; refine s_as ?_; refine AtR_nil ?_)
  refine At_ret1 Tryd.func96 rfl (by conv => lhs; whnf) ?_
  exact ⟨rfl, rfl⟩
def zb (l : List UInt8) (i : Nat) : Bool := decide (∀ j, j < i → l.getD (4 + j) 0 = 0)
theorem zb_step (l : List UInt8) (i : Nat) : zb l (i + 1) = (zb l i && decide (l.getD (4 + i) 0 = 0)) := by
  unfold zb
  rw [← Bool.decide_and]
  apply decide_eq_decide.2
  constructor
  · exact fun h => ⟨fun j hj => h j (by omega), h i (by omega)⟩
  · rintro ⟨h1, h2⟩ j hj
    by_cases e : j = i
    · rw [e]; exact h2
    · exact h1 j (by omega)
set_option maxRecDepth 100000 in
set_option maxHeartbeats 8000000 in
theorem unpackR_calls (l : List UInt8) (a : Option Addr) (len cap : Nat) (w : World) {D : Nat → Prop} (hs : SlE w .u8 a len cap (bs8 l) D) :
    Calls Tryd.prog 61 #[.slice a len cap] w fun e w' => e = .returned (.tuple #[.agg (prC (unP l)).toArray, .bool (unOk l)]) ∧ Kp No w w' := by
  have hll := hs.len_eq
  simp only [bs8_length] at hll
  subst hll
  have hcap := hs.le
  have hmx := hs.max
  refine calls_at (n := 45) Tryd.func61 rfl rfl (by simp) ?_
  (refine At_seq ?_; refine At_region ?_)
  refine AtR_go rfl (AtG_alloc fun b2 w1 hb2 e1 => ?_)
  have B2 : Blk w1 b2 38 (0, 0) z38 := e1.blk
  have K1 : Kp No w w1 := e1.kp (.inr (by omega))
  clear e1
  have hz1 := K1.size
  by_cases h36 : l.length = 36
  rotate_left
  · have ho : unOk l = false := by unfold unOk; rw [decide_eq_false h36]; rfl
    have hu : unP l = Pr.zero := by unfold unP; rw [ho]; rfl
    rw [ho, hu]
    (refine s_as ?_; refine AtR_nil ?_; refine At_seq ?_; refine At_seq ?_; refine At_region ?_; refine s_mv ?_; refine s_ln ?_; refine s_neq ?_; refine AtR_nil ?_; refine At_cond_t rfl ?_; refine At_seq ?_; refine At_region ?_)
    refine s_val (x_build rfl built38_nil) ?_
    skip
    refine AtR_go rfl (G_skip (r_store_all (s := 33) (vs := prC Pr.zero) rfl rfl B2 rfl rfl (prC_one _)) fun w2 e2 => ?_)
    (refine s_as ?_; refine AtR_nil ?_)
    exact At_ret_cell2 (s := 33) Tryd.func61 rfl rfl e2.blk rfl rfl ⟨rfl, K1.trans' (e2.kp (S := fun j => j = b2) (.inl rfl)) (by rintro j rfl; right; omega)⟩
  rcases hs.mem with h0 | ⟨b, off, rfl, hlt, _, hseg⟩
  · omega
  have hseg1 := hseg.kp K1 (fun h => h) hlt
  have hl4 : (l.take 4).length = 4 := by simp [h36]
  have hs4 : SlE w1 .u8 (some ⟨b, off, none⟩) 4 cap (bs8 (l.take 4)) (fun _ => True) := ⟨by simp [h36], by omega, hmx, .inr ⟨b, off, rfl, Nat.lt_of_lt_of_le hlt hz1, trivial, by rw [← bs8_take]; exact seg_take hseg1 4⟩⟩
  (refine s_as ?_; refine AtR_nil ?_; refine At_seq ?_; refine At_seq ?_; refine At_region ?_; refine s_mv ?_; refine s_ln ?_; refine s_neq ?_; refine AtR_nil ?_; refine At_cond_f rfl ?_; refine At_skip ?_; refine At_seq ?_; refine At_region ?_; refine s_mv ?_)
  refine s_val (x_slice_h rfl rfl (by omega) (by omega)) ?_
  refine s_call x_call (numR_calls (l.take 4) _ _ _ _ hs4 (by omega)) ?_
  rintro _ _ ⟨rfl, rfl⟩
  refine ⟨_, rfl, ?_⟩
  refine s_val (x_build (by first | rfl | exact rfl) (built38_s _)) ?_
  refine AtR_go rfl (AtG_alloc fun b4 w2 hb4 e2 => ?_)
  have l2 := B2.lt
  refine AtR_go rfl (G_skip (r_store_all (s := 33) (vs := prC ⟨numB (l.take 4), macTo l 0⟩) (by first | rfl | exact rfl) (by rw [macTo_zero]; rfl) e2.blk (by simp [prC, macTo]) rfl (prC_one _)) fun w3 e3 => ?_)
  have B4 : Blk w3 b4 38 (0, 0) (prC ⟨numB (l.take 4), macTo l 0⟩) := e3.blk
  have k3 : Kp No w1 w3 := (e2.kp (S := No) (.inr (by omega))).trans' (e3.kp (S := fun j => j = b4) (.inl rfl)) (by rintro j rfl; right; omega)
  have B23 := B2.kp k3 fun h => h
  have K3 := K1.trans k3
  clear e2 e3
  (refine AtR_nil ?_; refine At_seq ?_; refine At_region ?_; refine s_as ?_; refine AtR_nil ?_; refine At_seq ?_; refine At_seq ?_; refine At_region ?_; refine s_as ?_; refine AtR_nil ?_; refine At_block ?_)
  refine At_while (fun i : Nat => [(0, .slice (some ⟨b, off, none⟩) l.length cap), (2, .pointer (some ⟨b2, 0, none⟩)), (4, .pointer (some ⟨b4, 0, none⟩)), (5, .bool (zb l i)), (6, .int .i64 (i : Int))])
    (fun i w' => i ≤ 32 ∧ Blk w' b4 38 (0, 0) (prC ⟨numB (l.take 4), macTo l i⟩) ∧ Blk w' b2 38 (0, 0) z38 ∧ Kp No w w') (fun i => 32 - i) 0 ⟨rfl, rfl, rfl, (congrArg Value.bool (decide_eq_true (fun j hj => by omega)).symm : Value.bool true = .bool (zb l 0)), rfl, trivial⟩ ⟨by omega, B4, B23, K3⟩ ?_
  clear B4 B23
  rintro i w4 junk ⟨hi, B4, B24, K4⟩ again
  by_cases hlt32 : i < 32
  · have hseg4 := hseg.kp K4 (fun h => h) hlt
    have hb4' : w.heap.size ≤ b4 := by omega
    (refine At_seq ?_; refine At_seq ?_; refine At_region ?_; refine s_mv ?_; refine s_lss ?_; refine AtR_nil ?_; refine At_cond_t rfl ?_; refine At_skip ?_; refine At_seq ?_; refine At_block ?_; refine At_seq ?_; refine At_region ?_; refine s_mv ?_; refine s_mv ?_; refine s_mv ?_; refine s_ad ?_; refine s_ia ?_)
    rw [show (4 + (i : Int)).toNat = 4 + i by omega]
    have hli : 4 + i < l.length := by omega
    refine s_val (x_load_seg rfl hseg4 (oct_get hli)) ?_
    (refine s_fa ?_)
    have hm := macTo_length l i
    refine s_val (x_indexAddrI rfl rfl (by omega) (by omega)) ?_
    rw [Int.toNat_natCast]
    refine AtR_go rfl (G_skip (r_store1 (off := 1 + i) (v := .int .u8 (ub (l.getD (4 + i) 0))) rfl rfl B4 (by simp [prC, hm]; omega) rfl rfl) fun w5 e5 => ?_)
    have B5 : Blk w5 b4 38 (0, 0) (prC ⟨numB (l.take 4), macTo l (i + 1)⟩) := by
      have := e5.blk
      rw [← macTo_step l i hlt32]
      have e : (prC ⟨numB (l.take 4), macTo l i⟩).set (i + 1) (.int .u8 (ub (l.getD (4 + i) 0))) = prC ⟨numB (l.take 4), (macTo l i).set i (l.getD (4 + i) 0)⟩ := by
        simp [prC, ints, bs8, List.map_set]
      rw [← e]
      first
        | exact this
        | (rw [Int.toNat_natCast, Nat.add_comm 1 i] at this; exact this)
        | (rw [Nat.add_comm 1 i] at this; exact this)
    have k5 : Kp (fun j => j = b4) w4 w5 := e5.kp (.inl rfl)
    have hne : b2 ≠ b4 := by omega
    have B25 := B24.kp k5 hne
    have K5 := K4.trans' k5 (by rintro j rfl; right; exact hb4')
    have hseg5 := hseg.kp K5 (fun h => h) hlt
    clear e5
    have hzs := zb_step l i
    cases hzb : zb l i with
    | true =>
      rw [hzb, Bool.true_and] at hzs
      (refine AtR_nil ?_; refine At_region ?_; refine s_mv ?_; refine s_mv ?_; refine s_yes rfl rfl rfl rfl ?_; refine g_mv ?_; refine s_yes rfl rfl rfl rfl ?_; refine g_mv ?_; refine s_yes rfl rfl rfl rfl ?_; refine g_ad ?_; refine s_yes rfl rfl rfl rfl ?_; refine g_ia ?_)
      refine s_yes rfl rfl rfl rfl (g_val (x_load_seg rfl hseg5 (oct_get hli)) ?_)
      refine s_yes rfl rfl rfl rfl (g_val (x_eql rfl rfl) ?_)
      have hd : decide (ub (l.getD (4 + i) 0) = 0) = decide (l.getD (4 + i) 0 = 0) := by
        apply decide_eq_decide.2
        constructor
        · intro h
          apply UInt8.toNat_inj.1
          unfold ub at h
          simp only [UInt8.toNat_zero]
          omega
        · intro h; rw [h]; rfl
      rw [hd]
      (refine s_pt ?_; refine s_as ?_; refine AtR_nil ?_; refine At_inBlock ?_; refine At_region ?_; refine s_mv ?_; refine s_ad ?_; refine s_as ?_; refine AtR_nil ?_)
      exact again (i + 1) _ _ ⟨rfl, rfl, rfl, (congrArg Value.bool hzs.symm : Value.bool (decide (l.getD (4 + i) 0 = 0)) = .bool (zb l (i + 1))), rfl, trivial⟩ ⟨hlt32, B5, B25, K5⟩ (by omega)
    | false =>
      rw [hzb, Bool.false_and] at hzs
      (refine AtR_nil ?_; refine At_region ?_; refine s_mv ?_; refine s_mv ?_; refine s_no rfl rfl rfl rfl ?_; refine s_no rfl rfl rfl rfl ?_; refine s_no rfl rfl rfl rfl ?_; refine s_no rfl rfl rfl rfl ?_; refine s_no rfl rfl rfl rfl ?_; refine s_no rfl rfl rfl rfl ?_; refine s_pf ?_; refine s_as ?_; refine AtR_nil ?_; refine At_inBlock ?_; refine At_region ?_; refine s_mv ?_; refine s_ad ?_; refine s_as ?_; refine AtR_nil ?_)
      exact again (i + 1) _ _ ⟨rfl, rfl, rfl, (congrArg Value.bool hzs.symm : Value.bool false = .bool (zb l (i + 1))), rfl, trivial⟩ ⟨hlt32, B5, B25, K5⟩ (by omega)
  have hie : i = 32 := by omega
  clear again
  subst hie
  have hzz : zb l 32 = decide (l.drop 4 = List.replicate 32 0) := decide_eq_decide.2 (mac_zero h36)
  rw [macTo_all h36] at B4
  have hu : (unB l).mac.length = 32 := by simp [unB, h36]
  have B4u : Blk w4 b4 38 (0, 0) (prC (unB l)) := B4
  have hl33 : (prC (unB l)).length = 33 := by simp [prC, hu]
  have B4i : Blk w4 b4 38 (0, 0) (.int .i64 ((numB (l.take 4) : Nat) : Int) :: ints .u8 (bs8 (l.drop 4))) := B4
  have fin : ∀ {p : Pr} {w6 : World}, Eff w4 w6 b2 (.cells (prC p).toArray 38 (0, 0)) → Kp No w w6 := fun {p w6} e => K4.trans' (e.kp (S := fun j => j = b2) (.inl rfl)) (by rintro j rfl; right; omega)
  rw [hzz]
  by_cases h0 : numB (l.take 4) = 0
  · by_cases hz : l.drop 4 = List.replicate 32 0
    · have ho : unOk l = true := by unfold unOk; rw [decide_eq_true h36, decide_eq_true hz, Bool.not_true, Bool.and_false]; rfl
      rw [decide_eq_true hz, show unP l = unB l by unfold unP; rw [ho]; rfl, ho]
      (refine At_seq ?_; refine At_seq ?_; refine At_region ?_; refine s_mv ?_; refine s_lss ?_; refine AtR_nil ?_; refine At_cond_f rfl ?_; refine At_exit rfl ?_; refine At_seq ?_; refine At_seq ?_; refine At_region ?_; refine s_fa ?_; refine s_ld ?_; refine s_eql ?_; refine s_mv ?_; refine s_yes rfl rfl rfl rfl ?_; refine g_mv ?_; refine s_yes rfl rfl rfl rfl ?_; refine g_nt ?_; refine s_pt ?_; refine AtR_nil ?_; refine At_cond_f rfl ?_; refine At_skip ?_; refine At_seq ?_; refine At_region ?_)
      refine s_val (x_load_all rfl B4u hl33) ?_
      refine AtR_go rfl (G_skip (r_store_all (s := 33) rfl rfl B24 hl33 rfl (prC_one _)) fun w6 e6 => ?_)
      (refine s_as ?_; refine AtR_nil ?_)
      exact At_ret_cell2 (s := 33) Tryd.func61 rfl rfl e6.blk hl33 rfl ⟨rfl, fin e6⟩
    · have ho : unOk l = false := by unfold unOk; rw [decide_eq_true h36, decide_eq_false hz, decide_eq_true h0]; rfl
      rw [decide_eq_false hz, show unP l = Pr.zero by unfold unP; rw [ho]; rfl, ho]
      (refine At_seq ?_; refine At_seq ?_; refine At_region ?_; refine s_mv ?_; refine s_lss ?_; refine AtR_nil ?_; refine At_cond_f rfl ?_; refine At_exit rfl ?_; refine At_seq ?_; refine At_seq ?_; refine At_region ?_; refine s_fa ?_; refine s_ld ?_; refine s_eql ?_; refine s_mv ?_; refine s_yes rfl rfl rfl rfl ?_; refine g_mv ?_; refine s_yes rfl rfl rfl rfl ?_; refine g_nt ?_; refine s_pt ?_; refine AtR_nil ?_; refine At_cond_t rfl ?_; refine At_seq ?_; refine At_region ?_)
      refine s_val (x_build rfl built38_nil) ?_
      skip
      refine AtR_go rfl (G_skip (r_store_all (s := 33) (vs := prC Pr.zero) rfl rfl B24 rfl rfl (prC_one _)) fun w6 e6 => ?_)
      (refine s_as ?_; refine AtR_nil ?_)
      exact At_ret_cell2 (s := 33) Tryd.func61 rfl rfl e6.blk rfl rfl ⟨rfl, fin e6⟩
  · have ho : unOk l = true := by unfold unOk; rw [decide_eq_true h36, decide_eq_false h0]; rfl
    rw [show unP l = unB l by unfold unP; rw [ho]; rfl, ho]
    (refine At_seq ?_; refine At_seq ?_; refine At_region ?_; refine s_mv ?_; refine s_lss ?_; refine AtR_nil ?_; refine At_cond_f rfl ?_; refine At_exit rfl ?_; refine At_seq ?_; refine At_seq ?_; refine At_region ?_; refine s_fa ?_; refine s_ld ?_; refine s_eql ?_; refine s_mv ?_; refine s_no rfl rfl rfl rfl ?_; refine s_no rfl rfl rfl rfl ?_; refine s_pf ?_; refine AtR_nil ?_; refine At_cond_f rfl ?_; refine At_skip ?_; refine At_seq ?_; refine At_region ?_)
    refine s_val (x_load_all rfl B4u hl33) ?_
    refine AtR_go rfl (G_skip (r_store_all (s := 33) rfl rfl B24 hl33 rfl (prC_one _)) fun w6 e6 => ?_)
    (refine s_as ?_; refine AtR_nil ?_)
    exact At_ret_cell2 (s := 33) Tryd.func61 rfl rfl e6.blk hl33 rfl ⟨rfl, fin e6⟩
end Go.Proofs.YtfngacepjcdlnaaDoor

namespace Go.Kx
open Go
theorem x_eql_nil_iface {P : Program} {n : Nat} {env : Env} {w : World} {dst : Option Tmp} {ty : TypeId} {pos : String} {aft : Array Edge} {g : Option (Nat × Bool)} {x : Operand} {T T' : TypeId} (hT : ∃ m, P.underlying T = some (.interface m)) (hx : ev n env x = .nilIface) :
    Run P n env ⟨dst, .binOp .eql T x (.const .nilIface) T', ty, pos, aft, g⟩ w (.ok (.value (.bool true)) w) := by
  obtain ⟨m, hm⟩ := hT
  obtain ⟨k, hk⟩ : ∃ k, Op.maxDepth = k + 1 := ⟨Op.maxDepth - 1, by decide⟩
  unfold Run
  simp [execOp, hx, show ev n env (.const .nilIface) = .nilIface from rfl, eqGuard, binOp, run_underlying hm, Op.equal, hk, Op.equalIn]
end Go.Kx
namespace Go.Proofs.YtfngacepjcdlnaaDoor
open Go Go.Kx Go.Kr Go.Mt
set_option maxRecDepth 100000 in
set_option maxHeartbeats 4000000 in
theorem new_nil_calls (v : Value) (x2 x3 : Value) (w : World) :
    Calls Tryd.prog 49 #[.nilIface, v, x2, x3] w fun e w' => e = .returned (.tuple #[.pointer none, .int .i64 1]) ∧ w = w' := by
  refine calls_at (n := 29) Tryd.func49 rfl rfl (by simp) ?_
  (refine At_seq ?_; refine At_region ?_; refine s_as ?_; refine s_as ?_; refine AtR_nil ?_; refine At_seq ?_; refine At_block ?_; refine At_seq ?_; refine At_region ?_; refine s_mv ?_)
  refine s_val (x_eql_nil_iface ⟨_, Tryd.underlying169⟩ rfl) ?_
  (refine s_mv ?_; refine s_no rfl rfl rfl rfl ?_; refine s_no rfl rfl rfl rfl ?_; refine s_pt ?_; refine s_as ?_; refine AtR_nil ?_; refine At_cond_t rfl ?_; refine At_seq ?_; refine At_region ?_; refine s_as ?_; refine s_as ?_; refine AtR_nil ?_)
  refine At_ret2 Tryd.func49 rfl (by conv => lhs; whnf) (by conv => lhs; whnf) ?_
  exact ⟨rfl, rfl⟩
set_option maxRecDepth 100000 in
set_option maxHeartbeats 4000000 in
theorem new_nil2_calls (sp : Nat) (x2 x3 : Value) (w : World) :
    Calls Tryd.prog 49 #[.iface 47 (.pointer (some ⟨sp, 0, none⟩)), .pointer none, x2, x3] w fun e w' => e = .returned (.tuple #[.pointer none, .int .i64 1]) ∧ w = w' := by
  refine calls_at (n := 29) Tryd.func49 rfl rfl (by simp) ?_
  (refine At_seq ?_; refine At_region ?_; refine s_as ?_; refine s_as ?_; refine AtR_nil ?_; refine At_seq ?_; refine At_block ?_; refine At_seq ?_; refine At_region ?_; refine s_mv ?_)
  refine s_val (x_eql_iface_nil ⟨_, Tryd.underlying169⟩ (by kernel_rfl) rfl rfl) ?_
  (refine s_mv ?_; refine s_yes rfl rfl rfl rfl ?_; refine g_mv ?_; refine s_yes rfl rfl rfl rfl ?_; refine g_eqln ?_; refine s_pf ?_; refine s_as ?_; refine AtR_nil ?_; refine At_cond_t rfl ?_; refine At_seq ?_; refine At_region ?_; refine s_as ?_; refine s_as ?_; refine AtR_nil ?_)
  refine At_ret2 Tryd.func49 rfl (by conv => lhs; whnf) (by conv => lhs; whnf) ?_
  exact ⟨rfl, rfl⟩
set_option maxRecDepth 100000 in
set_option maxHeartbeats 4000000 in
theorem new_long_calls (sp bo : Nat) (x2 : Value) (an : Option Addr) (ln cn : Nat) (w : World) (h : 256 < ln) (h2 : ln ≤ 100000) :
    Calls Tryd.prog 49 #[.iface 47 (.pointer (some ⟨sp, 0, none⟩)), .pointer (some ⟨bo, 0, none⟩), x2, .slice an ln cn] w fun e w' => e = .returned (.tuple #[.pointer none, .int .i64 2]) ∧ w = w' := by
  refine calls_at (n := 29) Tryd.func49 rfl rfl (by simp) ?_
  (refine At_seq ?_; refine At_region ?_; refine s_as ?_; refine s_as ?_; refine AtR_nil ?_; refine At_seq ?_; refine At_block ?_; refine At_seq ?_; refine At_region ?_; refine s_mv ?_)
  refine s_val (x_eql_iface_nil ⟨_, Tryd.underlying169⟩ (by kernel_rfl) rfl rfl) ?_
  (refine s_mv ?_; refine s_yes rfl rfl rfl rfl ?_; refine g_mv ?_; refine s_yes rfl rfl rfl rfl ?_; refine g_eqlp ?_; refine s_pf ?_; refine s_as ?_; refine AtR_nil ?_; refine At_cond_f rfl ?_; refine At_seq ?_; refine At_region ?_; refine s_mv ?_; refine s_ln ?_; refine s_gtr ?_; refine s_as ?_; refine AtR_nil ?_; refine At_cond_t rfl ?_; refine At_seq ?_; refine At_region ?_; refine s_as ?_; refine s_as ?_; refine AtR_nil ?_)
  refine At_ret2 Tryd.func49 rfl (by conv => lhs; whnf) (by conv => lhs; whnf) ?_
  exact ⟨rfl, rfl⟩
set_option maxRecDepth 100000 in
set_option maxHeartbeats 16000000 in
theorem Put_wrong (G : Value) (r : Pr) (d i : Int) (a : Option Addr) (len cap : Nat) (w : World) (hr : r.wf) (hi : -9223372036854775808 ≤ i ∧ i ≤ 9223372036854775807) (hlen : len ≤ 1000000) (hb : ¬ (0 ≤ d ∧ d ≤ 5) ∨ i < 0 ∨ 537824 ≤ i ∨ len ≠ 512) :
    Calls Tryd.prog 25 #[G, .agg (trC r d).toArray, .int .i64 i, .slice a len cap] w fun e w' => e = .returned (.tuple #[.agg (trC Pr.zero 0).toArray, .int .i64 2]) ∧ Kp No w w' := by
  refine calls_at (n := 61) Tryd.func25 rfl rfl (by simp) ?_
  have hl34 := trC_length hr d
  (refine At_seq ?_; refine At_region ?_)
  refine AtR_go rfl (AtG_box rfl fun b5 w1 hb5 e1 => ?_)
  have B5 : Blk w1 b5 40 (0, 0) (trC r d) := e1.blk
  have k1 : Kp No w w1 := e1.kp (.inr (by omega))
  clear e1
  refine AtR_go rfl (AtG_alloc fun b8 w2 hb8 e2 => ?_)
  have B8 : Blk w2 b8 40 (0, 0) z40 := e2.blk
  have k2 : Kp No w1 w2 := e2.kp (.inr (by omega))
  have z1 := k1.size
  clear e2
  replace B5 := B5.kp k2 fun h => h
  (refine s_as ?_; refine AtR_nil ?_; refine At_seq ?_; refine At_seq ?_; refine At_region ?_)
  refine s_val (x_load_all rfl B5 hl34) ?_
  refine s_call x_call (right_calls r d _ hr) ?_
  rintro _ w3 ⟨rfl, k3⟩
  refine ⟨_, rfl, ?_⟩
  have B8a := B8.kp k3 fun h => h
  have K3 := (k1.trans k2).trans k3
  have fin : ∀ {w6 : World}, Eff w3 w6 b8 (.cells (trC Pr.zero 0).toArray 40 (0, 0)) → Kp No w w6 := fun {w6} e => K3.trans' (e.kp (S := fun j => j = b8) (.inl rfl)) (by rintro j rfl; right; omega)
  by_cases h5 : 0 ≤ d ∧ d ≤ 5
  rotate_left
  · rw [decide_eq_false h5]
    (refine s_nt ?_; refine s_mv ?_; refine s_no rfl rfl rfl rfl ?_; refine s_no rfl rfl rfl rfl ?_; refine s_pt ?_; refine s_mv ?_; refine s_no rfl rfl rfl rfl ?_; refine s_no rfl rfl rfl rfl ?_; refine s_no rfl rfl rfl rfl ?_; refine s_pt ?_; refine s_mv ?_; refine s_no rfl rfl rfl rfl ?_; refine s_no rfl rfl rfl rfl ?_; refine s_no rfl rfl rfl rfl ?_; refine s_pt ?_; refine AtR_nil ?_; refine At_cond_t rfl ?_; refine At_seq ?_; refine At_region ?_)
    refine s_val (x_build (by first | rfl | exact rfl) built40_nil) ?_
    refine AtR_go rfl (G_skip (r_store_all (s := 34) (vs := trC Pr.zero 0) rfl rfl B8a rfl rfl rfl) fun w6 e6 => ?_)
    (refine s_as ?_; refine AtR_nil ?_)
    exact At_ret_cell2 (s := 34) Tryd.func25 rfl rfl e6.blk rfl rfl ⟨rfl, fin e6⟩
  rw [decide_eq_true h5]
  by_cases h0 : i < 0
  · (refine s_nt ?_; refine s_mv ?_; refine s_yes rfl rfl rfl rfl ?_; refine g_mv ?_; refine s_yes rfl rfl rfl rfl ?_; refine g_lss ?_; refine s_pf ?_; refine s_mv ?_; refine s_no rfl rfl rfl rfl ?_; refine s_no rfl rfl rfl rfl ?_; refine s_no rfl rfl rfl rfl ?_; refine s_pt ?_; refine s_mv ?_; refine s_no rfl rfl rfl rfl ?_; refine s_no rfl rfl rfl rfl ?_; refine s_no rfl rfl rfl rfl ?_; refine s_pt ?_; refine AtR_nil ?_; refine At_cond_t rfl ?_; refine At_seq ?_; refine At_region ?_)
    refine s_val (x_build (by first | rfl | exact rfl) built40_nil) ?_
    refine AtR_go rfl (G_skip (r_store_all (s := 34) (vs := trC Pr.zero 0) rfl rfl B8a rfl rfl rfl) fun w6 e6 => ?_)
    (refine s_as ?_; refine AtR_nil ?_)
    exact At_ret_cell2 (s := 34) Tryd.func25 rfl rfl e6.blk rfl rfl ⟨rfl, fin e6⟩
  (refine s_nt ?_; refine s_mv ?_; refine s_yes rfl rfl rfl rfl ?_; refine g_mv ?_; refine s_yes rfl rfl rfl rfl ?_; refine g_lss ?_; refine s_pf ?_; refine s_mv ?_; refine s_yes rfl rfl rfl rfl ?_; refine g_mv ?_)
  refine s_yes rfl rfl rfl rfl ?_
  refine g_call x_call (room_calls 5 _ (by omega)) ?_
  rintro _ _ ⟨rfl, rfl⟩
  refine ⟨_, rfl, ?_⟩
  rw [show roomZ 5 = 537824 from rfl]
  by_cases hr5 : 537824 ≤ i
  · (refine s_yes rfl rfl rfl rfl ?_; refine g_geq ?_; refine s_pf ?_; refine s_mv ?_; refine s_no rfl rfl rfl rfl ?_; refine s_no rfl rfl rfl rfl ?_; refine s_no rfl rfl rfl rfl ?_; refine s_pt ?_; refine AtR_nil ?_; refine At_cond_t rfl ?_; refine At_seq ?_; refine At_region ?_)
    refine s_val (x_build (by first | rfl | exact rfl) built40_nil) ?_
    refine AtR_go rfl (G_skip (r_store_all (s := 34) (vs := trC Pr.zero 0) rfl rfl B8a rfl rfl rfl) fun w6 e6 => ?_)
    (refine s_as ?_; refine AtR_nil ?_)
    exact At_ret_cell2 (s := 34) Tryd.func25 rfl rfl e6.blk rfl rfl ⟨rfl, fin e6⟩
  have hl5 : len ≠ 512 := by omega
  (refine s_yes rfl rfl rfl rfl ?_; refine g_geq ?_; refine s_pf ?_; refine s_mv ?_; refine s_yes rfl rfl rfl rfl ?_; refine g_mv ?_; refine s_yes rfl rfl rfl rfl ?_; refine g_ln ?_; refine s_yes rfl rfl rfl rfl ?_; refine g_neq ?_; refine s_pf ?_; refine AtR_nil ?_; refine At_cond_t rfl ?_; refine At_seq ?_; refine At_region ?_)
  refine s_val (x_build (by first | rfl | exact rfl) built40_nil) ?_
  refine AtR_go rfl (G_skip (r_store_all (s := 34) (vs := trC Pr.zero 0) rfl rfl B8a rfl rfl rfl) fun w6 e6 => ?_)
  (refine s_as ?_; refine AtR_nil ?_)
  exact At_ret_cell2 (s := 34) Tryd.func25 rfl rfl e6.blk rfl rfl ⟨rfl, fin e6⟩
set_option maxRecDepth 100000 in
set_option maxHeartbeats 16000000 in
theorem Cut_wrong (G : Value) (r : Pr) (d n : Int) (w : World) (hr : r.wf) (hb : ¬ (0 ≤ d ∧ d ≤ 5) ∨ n < 0) :
    Calls Tryd.prog 56 #[G, .agg (trC r d).toArray, .int .i64 n] w fun e w' => e = .returned (.tuple #[.agg (trC Pr.zero 0).toArray, .int .i64 2]) ∧ Kp No w w' := by
  refine calls_at (n := 42) Tryd.func56 rfl rfl (by simp) ?_
  have hl34 := trC_length hr d
  (refine At_seq ?_; refine At_region ?_)
  refine AtR_go rfl (AtG_box rfl fun b4 w1 hb4 e1 => ?_)
  have B4 : Blk w1 b4 40 (0, 0) (trC r d) := e1.blk
  have k1 : Kp No w w1 := e1.kp (.inr (by omega))
  clear e1
  refine AtR_go rfl (AtG_alloc fun b6 w2 hb6 e2 => ?_)
  have B6 : Blk w2 b6 40 (0, 0) z40 := e2.blk
  have k2 : Kp No w1 w2 := e2.kp (.inr (by omega))
  have z1 := k1.size
  clear e2
  replace B4 := B4.kp k2 fun h => h
  (refine s_as ?_; refine AtR_nil ?_; refine At_seq ?_; refine At_seq ?_; refine At_region ?_)
  refine s_val (x_load_all rfl B4 hl34) ?_
  refine s_call x_call (right_calls r d _ hr) ?_
  rintro _ w3 ⟨rfl, k3⟩
  refine ⟨_, rfl, ?_⟩
  have B6a := B6.kp k3 fun h => h
  have K3 := (k1.trans k2).trans k3
  have fin : ∀ {w6 : World}, Eff w3 w6 b6 (.cells (trC Pr.zero 0).toArray 40 (0, 0)) → Kp No w w6 := fun {w6} e => K3.trans' (e.kp (S := fun j => j = b6) (.inl rfl)) (by rintro j rfl; right; omega)
  by_cases h5 : 0 ≤ d ∧ d ≤ 5
  rotate_left
  · rw [decide_eq_false h5]
    (refine s_nt ?_; refine s_mv ?_; refine s_no rfl rfl rfl rfl ?_; refine s_no rfl rfl rfl rfl ?_; refine s_pt ?_; refine AtR_nil ?_; refine At_cond_t rfl ?_; refine At_seq ?_; refine At_region ?_)
    refine s_val (x_build (by first | rfl | exact rfl) built40_nil) ?_
    refine AtR_go rfl (G_skip (r_store_all (s := 34) (vs := trC Pr.zero 0) rfl rfl B6a rfl rfl rfl) fun w6 e6 => ?_)
    (refine s_as ?_; refine AtR_nil ?_)
    exact At_ret_cell2 (s := 34) Tryd.func56 rfl rfl e6.blk rfl rfl ⟨rfl, fin e6⟩
  rw [decide_eq_true h5]
  have h0 : n < 0 := by omega
  (refine s_nt ?_; refine s_mv ?_; refine s_yes rfl rfl rfl rfl ?_; refine g_mv ?_; refine s_yes rfl rfl rfl rfl ?_; refine g_lss ?_; refine s_pf ?_; refine AtR_nil ?_; refine At_cond_t rfl ?_; refine At_seq ?_; refine At_region ?_)
  refine s_val (x_build (by first | rfl | exact rfl) built40_nil) ?_
  refine AtR_go rfl (G_skip (r_store_all (s := 34) (vs := trC Pr.zero 0) rfl rfl B6a rfl rfl rfl) fun w6 e6 => ?_)
  (refine s_as ?_; refine AtR_nil ?_)
  exact At_ret_cell2 (s := 34) Tryd.func56 rfl rfl e6.blk rfl rfl ⟨rfl, fin e6⟩
set_option maxRecDepth 100000 in
set_option maxHeartbeats 16000000 in
theorem cut0_calls (C : Value) (p : Pr) (lv fst : Nat) (n : Int) (w : World) (hp : p.wf) (h0 : p.sec = 0) :
    Calls Tryd.prog 92 #[C, .agg (prC p).toArray, .agg (spC lv fst).toArray, .int .i64 n] w fun e w' => e = .returned (.tuple #[.agg (prC p).toArray, .int .i64 0]) ∧ Kp No w w' := by
  refine calls_at (n := 87) Tryd.func92 rfl rfl (by simp) ?_
  have hp33 := prC_length hp
  (refine At_seq ?_; refine At_region ?_)
  refine AtR_go rfl (AtG_box rfl fun b5 w1 hb5 e1 => ?_)
  have B5 : Blk w1 b5 38 (0, 0) (prC p) := e1.blk
  have k1 : Kp No w w1 := e1.kp (.inr (by omega))
  clear e1
  refine AtR_go rfl (AtG_box rfl fun b6 w2 hb6 e2 => ?_)
  have k2 : Kp No w1 w2 := e2.kp (.inr (by omega))
  clear e2
  refine AtR_go rfl (AtG_alloc fun b8 w3 hb8 e3 => ?_)
  have B8 : Blk w3 b8 38 (0, 0) z38 := e3.blk
  have k3 : Kp No w2 w3 := e3.kp (.inr (by omega))
  have z1 := k1.size
  have z2 := k2.size
  have B5a := B5.kp (k2.trans k3) fun h => h
  have K3 := (k1.trans k2).trans k3
  have l5 := (B5.kp k2 fun h => h).lt
  clear e3
  (refine s_as ?_; refine AtR_nil ?_; refine At_seq ?_; refine At_block ?_; refine At_seq ?_)
  have kd := Kp.drew (S := No) (w := w3)
  let S : World → Prop := fun w' => Blk w' b5 38 (0, 0) (.int .i64 (p.sec : Int) :: ints .u8 (bs8 p.mac))
  have hS : S w3.drew := Blk.kp B5a kd fun h => h
  refine At_draw S rfl ?_
  (apply AtH_take 0 rfl (by decide +kernel) (by exact rfl); (focus (intro wx hx; skip; exact x_fieldAddrN rfl (by first | exact Nat.zero_add _ | exact Nat.add_zero _ | (simp only [Nat.reduceAdd] <;> rfl) | exact rfl))); (focus (exact hS)))
  -- ready now: 1 load 3 t15
  refine AtH_take 1 rfl (by decide +kernel) (by exact rfl) (fun wx hx => x_load1 rfl hx rfl) hS ?_
  (apply AtH_bool 2 rfl (by decide +kernel) (by exact rfl); (focus (intro wx hx; skip; exact x_eql rfl rfl)); (focus (exact decide_eq_true (by omega))); (focus (exact hS)))
  (apply AtH_take 3 rfl (by decide +kernel) (by exact rfl); (focus (intro wx hx; skip; exact x_move (by conv => lhs; whnf))); (focus (exact hS)))
  refine AtH_no 4 rfl (by decide +kernel) (by exact ⟨_, _, rfl, by decide, rfl, rfl⟩) hS ?_
  refine AtH_no 5 rfl (by decide +kernel) (by exact ⟨_, _, rfl, by decide, rfl, rfl⟩) hS ?_
  refine AtH_no 6 rfl (by decide +kernel) (by exact ⟨_, _, rfl, by decide, rfl, rfl⟩) hS ?_
  refine AtH_no 7 rfl (by decide +kernel) (by exact ⟨_, _, rfl, by decide, rfl, rfl⟩) hS ?_
  refine AtH_no 8 rfl (by decide +kernel) (by exact ⟨_, _, rfl, by decide, rfl, rfl⟩) hS ?_
  refine AtH_no 9 rfl (by decide +kernel) (by exact ⟨_, _, rfl, by decide, rfl, rfl⟩) hS ?_
  refine AtH_no 10 rfl (by decide +kernel) (by exact ⟨_, _, rfl, by decide, rfl, rfl⟩) hS ?_
  refine AtH_no 11 rfl (by decide +kernel) (by exact ⟨_, _, rfl, by decide, rfl, rfl⟩) hS ?_
  (apply AtH_take 12 rfl (by decide +kernel) (by exact rfl); (focus (intro wx hx; skip; exact x_pick_t rfl (by conv => lhs; whnf))); (focus (exact hS)))
  (apply AtH_take 13 rfl (by decide +kernel) (by exact rfl); (focus (intro wx hx; skip; exact x_assign (by conv => lhs; whnf))); (focus (exact hS)))
  refine AtH_done (by decide +kernel) ?_
  have K4 := K3.trans kd
  have B5b := B5a.kp kd fun h => h
  have B8b := B8.kp kd fun h => h
  (refine At_cond_t rfl ?_; refine At_seq ?_; refine At_region ?_)
  refine s_val (x_load_all rfl B5b hp33) ?_
  refine AtR_go rfl (G_skip (r_store_all (s := 33) (vs := prC p) rfl rfl B8b hp33 rfl (prC_one _)) fun w6 e6 => ?_)
  (refine s_as ?_; refine AtR_nil ?_)
  exact At_ret_cell2 (s := 33) Tryd.func92 rfl rfl e6.blk hp33 rfl ⟨rfl, K4.trans' (e6.kp (S := fun j => j = b8) (.inl rfl)) (by rintro j rfl; right; omega)⟩
theorem built40_rd {r : Pr} (h : r.wf) (d : Int) : Tryd.prog.built 40 [(0, .agg (prC r).toArray), (1, .int .i64 d)] = some (trC r d).toArray := by
  have hb : ∀ v, Tryd.prog.built 40 v = Instr.fill (#[(0, 33), (33, 1)][·]?) z40.toArray v := fun v => by kernel_rfl
  have hz : z40.length = 34 := rfl
  have hp := prC_length h
  rw [hb, fill_agg (i := 0) (off := 0) (s := 33) rfl hp (by omega)]
  rw [show z40 = trC Pr.zero 0 from rfl, trC_lay zero_wf h 0, fill_val (i := 1) (off := 33) rfl rfl (by rw [trC_length h]; omega), trC_set h]
  rfl
set_option maxRecDepth 100000 in
set_option maxHeartbeats 16000000 in
theorem Cut_zero (g sp bo : Nat) (key name : List UInt8) (st : St) (r : Pr) (d n : Nat) (w : World) {Ds Dg : Nat → Prop} (h : Wood w g sp bo key name st Ds Dg) (hr : r.wf) (hr0 : r.sec = 0) (hd : d ≤ 5) (hn : n < 9223372036854775808) :
    Calls Tryd.prog 56 #[.pointer (some ⟨g, 0, none⟩), .agg (trC r (d : Int)).toArray, .int .i64 (n : Int)] w fun e w' => e = .returned (.tuple #[.agg (trC r (d : Int)).toArray, .int .i64 0]) ∧ StAt w' sp st Ds ∧ Kp Ds w w' := by
  refine calls_at (n := 42) Tryd.func56 rfl rfl (by simp) ?_
  have hl34 := trC_length hr (d : Int)
  have hr33 := prC_length hr
  have hgs := h.sep
  (refine At_seq ?_; refine At_region ?_)
  refine AtR_go rfl (AtG_box rfl fun b4 w1 hb4 e1 => ?_)
  have B4 : Blk w1 b4 40 (0, 0) (trC r (d : Int)) := e1.blk
  have k1 : Kp No w w1 := e1.kp (.inr (by omega))
  clear e1
  refine AtR_go rfl (AtG_alloc fun b6 w2 hb6 e2 => ?_)
  have B6 : Blk w2 b6 40 (0, 0) z40 := e2.blk
  have k2 : Kp No w1 w2 := e2.kp (.inr (by omega))
  have z1 := k1.size
  have z2 := k2.size
  have l4 := B4.lt
  clear e2
  replace B4 := B4.kp k2 fun h => h
  (refine s_as ?_; refine AtR_nil ?_; refine At_seq ?_; refine At_seq ?_; refine At_region ?_)
  refine s_val (x_load_all rfl B4 hl34) ?_
  refine s_call x_call (right_calls r (d : Int) _ hr) ?_
  rintro _ w3 ⟨rfl, k3⟩
  refine ⟨_, rfl, ?_⟩
  rw [decide_eq_true (⟨by omega, by omega⟩ : 0 ≤ (d : Int) ∧ (d : Int) ≤ 5)]
  have hdeep := trC_deep hr (d : Int)
  have l6 := B6.lt
  (refine s_nt ?_; refine s_mv ?_; refine s_yes rfl rfl rfl rfl ?_; refine g_mv ?_; refine s_yes rfl rfl rfl rfl ?_; refine g_lss ?_; refine s_pf ?_; refine AtR_nil ?_; refine At_cond_f rfl ?_; refine At_skip ?_; refine At_seq ?_; refine At_region ?_; refine s_mv ?_)
  refine s_val (x_build rfl (built149 g)) ?_
  refine AtR_go rfl (AtG_box rfl fun c w4 hc4 e4 => ?_)
  have C4 : Blk w4 c 149 (0, 0) [.pointer (some ⟨g, 0, none⟩), .slice none 0 0, .slice none 0 0] := e4.blk
  have k4 : Kp No w3 w4 := e4.kp (.inr (by omega))
  have K4 := ((k1.trans k2).trans k3).trans k4
  have zK4 := K4.size
  have z3 := k3.size
  clear e4
  have B4a := B4.kp (k3.trans k4) fun h => h
  have B6a := B6.kp (k3.trans k4) fun h => h
  (refine s_as ?_; refine AtR_nil ?_; refine At_seq ?_; refine At_region ?_; refine s_mv ?_; refine s_fa ?_)
  refine s_val (x_load_segN rfl (trC_seg B4a) hr33) ?_
  (refine s_fa ?_)
  refine s_val (x_load1 rfl B4a hdeep) ?_
  refine s_val (x_build rfl (built153 (d : Int) 0)) ?_
  (refine s_mv ?_)
  refine s_call x_call (cut0_calls _ r d 0 (n : Int) _ hr hr0) ?_
  rintro _ w5 ⟨rfl, k5⟩
  refine ⟨_, rfl, ?_⟩
  (refine s_mv ?_; refine s_ex ?_; refine s_ex ?_)
  refine AtR_go rfl (AtG_alloc fun b9 w6 hb9 e6 => ?_)
  refine AtR_go rfl (G_skip (r_store_all (s := 33) (vs := prC r) rfl rfl e6.blk hr33 rfl (prC_one _)) fun w7 e7 => ?_)
  have B9 : Blk w7 b9 38 (0, 0) (prC r) := e7.blk
  have k7 : Kp No w5 w7 := (e6.kp (S := No) (.inr (by omega))).trans' (e7.kp (S := fun j => j = b9) (.inl rfl)) (by rintro j rfl; right; omega)
  have kk := k5.trans k7
  have zkk := kk.size
  have B4b := B4a.kp kk fun h => h
  have B6b := B6a.kp kk fun h => h
  have C7 := C4.kp kk fun h => h
  have K7 := K4.trans kk
  clear e6 e7
  have lc := C4.lt
  have hch : ChAt w7 c g sp bo key name ⟨st, [], []⟩ Ds (fun j => j = c) Dg := by
    refine ⟨h.gr.kpn K7, h.stt.kpn K7, ⟨none, 0, none, 0, C7, Own.nil _ _ _, Own.nil _ _ _, fun j hj => by simp [blkOf] at hj, fun j hj => by simp [blkOf] at hj, fun j hj => by simp [blkOf] at hj⟩, rfl, ?_, ?_, ?_, ?_⟩
    · rintro j hj rfl; have := h.stt.dlt _ hj; omega
    · refine fun j hj => ⟨(hgs j hj).1, ?_⟩
      rintro rfl; have := (hgs _ hj).2; omega
    · rintro j rfl; exact C7.lt
    · exact fun j hj => Nat.lt_of_lt_of_le (hgs j hj).2 K7.size
  (refine s_as ?_; refine AtR_nil ?_; refine At_seq ?_; refine At_region ?_; refine s_mv ?_)
  refine s_val (x_load_all rfl B9 hr33) ?_
  (refine s_fa ?_)
  refine s_val (x_load1 rfl B4b hdeep) ?_
  refine s_val (x_build (by first | rfl | exact rfl) (built40_rd hr (d : Int))) ?_
  (refine s_mv ?_)
  refine s_call x_call (end_calls c g sp bo key name ⟨st, [], []⟩ r (d : Int) 0 _ hch hr ⟨(fun n hn => by cases hn), (fun n hn => by cases hn)⟩) ?_
  rintro _ w8 ⟨rfl, hst8, k8⟩
  refine ⟨_, rfl, ?_⟩
  have hn6 : ¬ (Ds b6 ∨ b6 = c) := fun hd => hd.elim (fun h1 => by have := h.stt.dlt _ h1; omega) (fun h1 => by omega)
  have B6c := B6b.kp k8 hn6
  (refine s_ex ?_; refine s_ex ?_)
  refine AtR_go rfl (G_skip (r_store_all (s := 34) (vs := trC r (d : Int)) (by first | rfl | exact rfl) (by first | rfl | exact rfl) B6c hl34 rfl (trC_one _ _)) fun w9 e9 => ?_)
  (refine s_as ?_; refine AtR_nil ?_)
  have k9 : Kp (fun j => j = b6) w8 w9 := e9.kp (.inl rfl)
  refine At_ret_cell2 (s := 34) Tryd.func56 rfl rfl e9.blk hl34 rfl ⟨rfl, StAt.kp hst8 k9 (by rintro j hj rfl; exact hn6 (.inl hj)), ?_⟩
  have hK8 : Kp (fun j => Ds j ∨ w.heap.size ≤ j) w w8 := (K7.mono fun _ h => h.elim).trans (k8.mono fun j hj => hj.imp id fun h => by omega)
  exact Kp.trans' (Kp.refl Ds w) (hK8.trans' k9 (by rintro j rfl; right; omega)) fun j hj => hj
end Go.Proofs.YtfngacepjcdlnaaDoor
