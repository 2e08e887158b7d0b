/- Two trees in one store: what they tell, and how many sectors they need. Own work. -/
import Derived.Test.YtfngacepjcdlnaaDoorQMi
import Derived.Test.YtfngacepjcdlnaaDoorQTb
set_option linter.unusedVariables false
namespace Go.Mt
open Go Go.Kx Go.Proofs.YtfngacepjcdlnaaDoor
theorem Tree.count {key name : List UInt8} {st : St} {r : Pr} {d : Nat} {f : Nat → Option (List UInt8)} {S : List Nat} (h : Tree key name st r d f S) : S.length = cnt f d 0 := h.rep.len
def wrapN (x : Int) (m : Nat) : Nat := ((x.tmod m + m).tmod m).toNat
theorem wrapN_val {x : Int} {m : Nat} (h : 0 < m) : (x.tmod m + m).tmod m = (wrapN x m : Int) ∧ wrapN x m < m ∧ -(m : Int) < x.tmod m ∧ x.tmod m < m := by
 have h1 := rem_gt (a := x) (b := (m : Int)) (by omega)
 have h2 := rem_lt (a := x) (b := (m : Int)) (by omega)
 have h3 := rem_lt (a := x.tmod m + m) (b := (m : Int)) (by omega)
 have h4 := Int.tmod_nonneg (m : Int) (show 0 ≤ x.tmod m + m by omega)
 unfold wrapN
 exact ⟨by omega, by omega, h1, h2⟩
def blN (k : Nat) : List UInt8 := blockB (UInt8.ofNat (1 + k % 250))
def blks (l : List Nat) : Nat → Option (List UInt8) := fun j => if j ∈ l then some (blN j) else none
theorem upd_blks (l : List Nat) (k : Nat) : upd (blks l) k (some (blN k)) = blks (l ++ [k]) := by
 funext j
 unfold upd blks
 by_cases h : j = k
 ·rw [if_pos h, if_pos (by rw [h]; simp), h]
 ·rw [if_neg h]
  by_cases h2 : j ∈ l
  ·rw [if_pos h2, if_pos (List.mem_append_left _ h2)]
  ·rw [if_neg h2, if_neg fun h3 => (List.mem_append.1 h3).elim h2 fun h4 => h (by simpa using h4)]
theorem set_count : ∀ (l : List Bool) (i : Nat), (l.set i false).count true ≤ l.count true
 | [], _ => by simp
 | x :: l, 0 => by rw [List.set_cons_zero, List.count_cons, List.count_cons]; simp
 | x :: l, i + 1 => by rw [List.set_cons_succ, List.count_cons, List.count_cons]; have := set_count l i; omega
theorem drop_count (st : St) (m : Nat) : (st.drop m).count ≤ st.count := by
 unfold St.drop St.count
 split
 ·exact set_count _ _
 ·exact Nat.le_refl _
theorem dropAll_count : ∀ (l : List Nat) (st : St), (dropAll st l).count ≤ st.count
 | [], st => Nat.le_refl _
 | m :: l, st => Nat.le_trans (dropAll_count l (st.drop m)) (drop_count st m)
theorem putT_count {key name : List UInt8} {st : St} {r : Pr} {d i : Nat} {b : List UInt8} {f : Nat → Option (List UInt8)} {S : List Nat} (ht : Tree key name st r d f S) (ho : st.ok) (hi : i < roomN 5) (hb : st.b.length ≤ 999000) :
  (putS key name st r d i b).count ≤ st.count + 11 := by
 have hdeep := deep_rep (key := key) (name := name) hi (u := 5 - d) (d := d) (r := r) (ch := ⟨st, [], []⟩) (f := f) (S := S) (by have := ht.le; omega) ht.rep ht.out ho ⟨by simp only; omega, by simp; omega, by simp; omega⟩
 unfold putS putT
 generalize deepP key name i (5 - d) d r ⟨st, [], []⟩ = D at *
 obtain ⟨⟨r', d', c⟩, ch⟩ := D
 simp only at hdeep ⊢
 obtain ⟨N, s1, n1, s2⟩ := hdeep
 have hcnt : ∀ {ch' : Ch} {N' G' : List Nat} (l : List Nat), Step ⟨st, [], []⟩ ch' N' G' → N'.length ≤ 11 → (dropAll ch'.st l).count ≤ st.count + 11 := fun {ch' N' G'} l hs hn => by
  have h1 := dropAll_count l ch'.st
  have h2 := hs.1.count
  simp only at h2
  omega
 rcases s2 with ⟨rfl, S1, r1, r2, r3, r4, r5, r6⟩ | ⟨rfl, c2⟩
 ·simp only [if_true]
  obtain ⟨N2, G2, t1, n2, g2, _⟩ := put_rep (b := b) r1 (Nat.zero_le i) (by omega) (s1.1.ok ho) (by
   have h1 := s1.1.len
   have h2 := s1.2.1
   have h3 := s1.2.2
   simp only [List.nil_append] at h2 h3 h1
   exact ⟨by omega, by rw [h2]; omega, by rw [h3]; simp; omega⟩)
  exact hcnt _ (s1.trans t1) (by simp; omega)
 ·simp only [show ¬ (12 : Nat) = 0 by omega, if_false]
  exact hcnt _ s1 (by omega)
def Top (f : Nat → Option (List UInt8)) (d : Nat) : Prop := d = 0 ∨ ∃ j, f j ≠ none ∧ roomN (d - 1) ≤ j
theorem Held.swap {st : St} {A B : List Nat} (h : Held st (A ++ B)) : Held st (B ++ A) := ⟨h.1, fun a => by have := h.2 a; rw [List.count_append] at *; omega⟩
theorem put_more {key name : List UInt8} {st : St} {r : Pr} {d i : Nat} {b : List UInt8} {f : Nat → Option (List UInt8)} {S X : List Nat} (ht : Tree key name st r d f S) (htop : Top f d) (hH : Held st (S ++ X)) (hi : i < roomN 5) (hb : st.b.length ≤ 999000) (hr : st.count + 11 < st.room) :
  (putT key name st r d i b).1.2.2 = 0 ∧ ∃ S', Tree key name (putS key name st r d i b) (putT key name st r d i b).1.1 (putT key name st r d i b).1.2.1 (upd f i (some b)) S' ∧ Top (upd f i (some b)) (putT key name st r d i b).1.2.1 ∧ Held (putS key name st r d i b) (S' ++ X) ∧
   (putS key name st r d i b).count ≤ st.count + 11 ∧ (∀ n ∈ X, ∀ x, st.at n = some x → (putS key name st r d i b).at n = some x) ∧ (putS key name st r d i b).b.length ≤ st.b.length + 12 ∧ (putS key name st r d i b).room = st.room := by
 obtain ⟨h1, h2, h3, h4⟩ := putT_rep (b := b) ht hH hi hb
 have h5 := putT_count (b := b) ht hH.1 hi hb
 rcases h4 with ⟨c, S', a1, a2, a3, a4⟩ | ⟨_, _, _, h⟩
 ·refine ⟨c, S', a1, ?_, a2, h5, h1, h2, h3⟩
  rcases a4 with e | ⟨e1, e2⟩
  ·rw [e]
   rcases htop with h | ⟨j, h, h'⟩
   ·exact .inl h
   ·refine .inr ⟨j, ?_, h'⟩
    unfold upd
    split
    ·simp
    ·exact h
  ·exact .inr ⟨i, by simp [upd], e2⟩
 ·omega
structure Two (key name : List UInt8) (st : St) (r r2 : Pr) (d d2 : Nat) (l l2 : List Nat) : Prop where
 ex : ∃ S S2, Tree key name st r d (blks l) S ∧ Top (blks l) d ∧ Tree key name st r2 d2 (blks l2) S2 ∧ Top (blks l2) d2 ∧ Held st (S ++ S2)
 count : st.count ≤ 11 * (l.length + l2.length)
 room : st.room = 200
 len : st.b.length ≤ 12 * (l.length + l2.length)
theorem two_new (key name : List UInt8) : Two key name (St.new 200) Pr.zero Pr.zero 0 0 [] [] :=
 ⟨⟨[], [], tree_nil key name _, .inl rfl, tree_nil key name _, .inl rfl, held_new 200⟩, Nat.le_refl _, rfl, Nat.le_refl _⟩
theorem Two.swap {key name : List UInt8} {st : St} {r r2 : Pr} {d d2 : Nat} {l l2 : List Nat} (h : Two key name st r r2 d d2 l l2) : Two key name st r2 r d2 d l2 l := by
 obtain ⟨⟨S, S2, h1, h2, h3, h4, h5⟩, h6, h7, h8⟩ := h
 exact ⟨⟨S2, S, h3, h4, h1, h2, h5.swap⟩, by omega, h7, by omega⟩
theorem Two.put {key name : List UInt8} {st : St} {r r2 : Pr} {d d2 : Nat} {l l2 : List Nat} (h : Two key name st r r2 d d2 l l2) {k : Nat} (hk : k < 3000) (hl : l.length + l2.length ≤ 15) :
  (putT key name st r d k (blN k)).1.2.2 = 0 ∧ Two key name (putS key name st r d k (blN k)) (putT key name st r d k (blN k)).1.1 r2 (putT key name st r d k (blN k)).1.2.1 d2 (l ++ [k]) l2 := by
 obtain ⟨⟨S, S2, h1, h2, h3, h4, h5⟩, h6, h7, h8⟩ := h
 have h5r : roomN 5 = 537824 := rfl
 obtain ⟨c, S', a1, a2, a3, a4, a5, a6, a7⟩ := put_more (b := blN k) h1 h2 h5 (i := k) (by omega) (by omega) (by omega)
 rw [upd_blks] at a1 a2
 refine ⟨c, ⟨S', S2, a1, a2, h3.sub a5, h4, a3⟩, ?_, by rw [a7]; exact h7, ?_⟩
 ·rw [List.length_append, List.length_singleton]; omega
 ·rw [List.length_append, List.length_singleton]; omega
theorem Top.uniq {f : Nat → Option (List UInt8)} {d d2 : Nat} (h1 : Top f d) (h2 : Top f d2) (o1 : ∀ j, roomN d ≤ j → f j = none) (o2 : ∀ j, roomN d2 ≤ j → f j = none) : d = d2 := by
 have key1 : ∀ {a b : Nat}, Top f b → (∀ j, roomN a ≤ j → f j = none) → ¬ a < b := fun {a b} h o hl => by
  rcases h with h | ⟨j, h, h'⟩
  ·omega
  ·apply h
   apply o
   have : roomN a ≤ roomN (b - 1) := Nat.pow_le_pow_right (by omega) (by omega)
   omega
 have := key1 h1 o2
 have := key1 h2 o1
 omega
theorem Two.same {key name : List UInt8} {st : St} {r r2 : Pr} {d d2 : Nat} {l l2 : List Nat} (h : Two key name st r r2 d d2 l l2) (hl : ∀ j, j ∈ l ↔ j ∈ l2) :
  d = d2 ∧ ∃ S S2, secT key name st r (d : Int) = (0, S) ∧ secT key name st r2 (d2 : Int) = (0, S2) ∧ S.length = S2.length := by
 obtain ⟨⟨S, S2, h1, h2, h3, h4, h5⟩, h6, h7, h8⟩ := h
 have e : blks l = blks l2 := by
  funext j
  unfold blks
  by_cases hj : j ∈ l
  ·rw [if_pos hj, if_pos ((hl j).1 hj)]
  ·rw [if_neg hj, if_neg fun h => hj ((hl j).2 h)]
 rw [← e] at h3 h4
 have hd := h2.uniq h4 h1.out h3.out
 refine ⟨hd, S, S2, h1.secT, h3.secT, ?_⟩
 rw [h1.count, h3.count, hd]
theorem rot_mem {n s : Nat} {g : Nat → Nat} (hs : s < n) : ∀ j, j ∈ (List.range n).map g ↔ j ∈ (List.range n).map fun i => g ((i + s) % n) := by
 intro j
 simp only [List.mem_map, List.mem_range]
 constructor
 ·rintro ⟨i, hi, rfl⟩
  refine ⟨(i + n - s) % n, Nat.mod_lt _ (by omega), ?_⟩
  rw [Nat.mod_add_mod, show i + n - s + s = i + n by omega, Nat.add_mod_right, Nat.mod_eq_of_lt hi]
 ·rintro ⟨i, hi, rfl⟩
  exact ⟨(i + s) % n, Nat.mod_lt _ (by omega), rfl⟩
theorem map_snoc (g : Nat → Nat) (i : Nat) : (List.range i).map g ++ [g i] = (List.range (i + 1)).map g := by rw [List.range_succ, List.map_append]; rfl
end Go.Mt
namespace Go.Mt
open Go Go.Kx Go.Proofs.YtfngacepjcdlnaaDoor
theorem putT_wf {key name : List UInt8} {st : St} {r r2 : Pr} {d d2 : Nat} {l l2 : List Nat} (h : Two key name st r r2 d d2 l l2) {k : Nat} (hk : k < 3000) (hl : l.length + l2.length ≤ 15) : (putT key name st r d k (blN k)).1.1.wf := by
 obtain ⟨_, ⟨⟨S, S2, h1, h2, h3, h4, h5⟩, h6, h7, h8⟩⟩ := h.put hk hl
 rw [List.length_append, List.length_singleton] at h8
 exact h1.wf (by omega)
end Go.Mt
