/- Two trees in one store: what they tell, and how many sectors they need. Own work. | The law MtreeOrder. -/
import Derived.Test.YtfngacepjcdlnaaDoorMMi
import Derived.Test.YtfngacepjcdlnaaDoorMTb
import Derived.Test.YtfngacepjcdlnaaDoorMNa
import Derived.Test.YtfngacepjcdlnaaDoorMKb
set_option linter.unusedVariables false
namespace Go.Mt
open Go Go.Kx Go.Proofs.YtfngacepjcdlnaaDoor
theorem Tree.count {key name : List UInt8} {st : St} {r : Pr} {d : Nat} {f : Nat → Option (List UInt8)} {S : List Nat} (h : Tree key name st r d f S) : S.length = cnt f d 0 := h.rep.len
/-- A number brought below m. -/
def wrapN (x : Int) (m : Nat) : Nat := ((x.tmod m + m).tmod m).toNat
theorem wrapN_val {x : Int} {m : Nat} (h : 0 < m) : (x.tmod m + m).tmod m = (wrapN x m : Int) ∧ wrapN x m < m ∧ -(m : Int) < x.tmod m ∧ x.tmod m < m := by
  have h1 := rem_gt (a := x) (b := (m : Int)) (by omega)
  have h2 := rem_lt (a := x) (b := (m : Int)) (by omega)
  have h3 := rem_lt (a := x.tmod m + m) (b := (m : Int)) (by omega)
  have h4 := Int.tmod_nonneg (m : Int) (show 0 ≤ x.tmod m + m by omega)
  unfold wrapN
  exact ⟨by omega, by omega, h1, h2⟩
/-- A block of a number. -/
def blN (k : Nat) : List UInt8 := blockB (UInt8.ofNat (1 + k % 250))
def blks (l : List Nat) : Nat → Option (List UInt8) := fun j => if j ∈ l then some (blN j) else none
theorem upd_blks (l : List Nat) (k : Nat) : upd (blks l) k (some (blN k)) = blks (l ++ [k]) := by
  funext j
  unfold upd blks
  by_cases h : j = k
  · rw [if_pos h, if_pos (by rw [h]; simp), h]
  · rw [if_neg h]
    by_cases h2 : j ∈ l
    · rw [if_pos h2, if_pos (List.mem_append_left _ h2)]
    · rw [if_neg h2, if_neg fun h3 => (List.mem_append.1 h3).elim h2 fun h4 => h (by simpa using h4)]
theorem set_count : ∀ (l : List Bool) (i : Nat), (l.set i false).count true ≤ l.count true
  | [], _ => by simp
  | x :: l, 0 => by rw [List.set_cons_zero, List.count_cons, List.count_cons]; simp
  | x :: l, i + 1 => by rw [List.set_cons_succ, List.count_cons, List.count_cons]; have := set_count l i; omega
theorem drop_count (st : St) (m : Nat) : (st.drop m).count ≤ st.count := by
  unfold St.drop St.count
  split
  · exact set_count _ _
  · exact Nat.le_refl _
theorem dropAll_count : ∀ (l : List Nat) (st : St), (dropAll st l).count ≤ st.count
  | [], st => Nat.le_refl _
  | m :: l, st => Nat.le_trans (dropAll_count l (st.drop m)) (drop_count st m)
theorem putT_count {key name : List UInt8} {st : St} {r : Pr} {d i : Nat} {b : List UInt8} {f : Nat → Option (List UInt8)} {S : List Nat} (ht : Tree key name st r d f S) (ho : st.ok) (hi : i < roomN 5) (hb : st.b.length ≤ 999000) :
    (putS key name st r d i b).count ≤ st.count + 11 := by
  have hdeep := deep_rep (key := key) (name := name) hi (u := 5 - d) (d := d) (r := r) (ch := ⟨st, [], []⟩) (f := f) (S := S) (by have := ht.le; omega) ht.rep ht.out ho ⟨by simp only; omega, by simp; omega, by simp; omega⟩
  unfold putS putT
  generalize deepP key name i (5 - d) d r ⟨st, [], []⟩ = D at *
  obtain ⟨⟨r', d', c⟩, ch⟩ := D
  simp only at hdeep ⊢
  obtain ⟨N, s1, n1, s2⟩ := hdeep
  have hcnt : ∀ {ch' : Ch} {N' G' : List Nat} (l : List Nat), Step ⟨st, [], []⟩ ch' N' G' → N'.length ≤ 11 → (dropAll ch'.st l).count ≤ st.count + 11 := fun {ch' N' G'} l hs hn => by
    have h1 := dropAll_count l ch'.st
    have h2 := hs.1.count
    simp only at h2
    omega
  rcases s2 with ⟨rfl, S1, r1, r2, r3, r4, r5, r6⟩ | ⟨rfl, c2⟩
  · simp only [if_true]
    obtain ⟨N2, G2, t1, n2, g2, _⟩ := put_rep (b := b) r1 (Nat.zero_le i) (by omega) (s1.1.ok ho) (by
      have h1 := s1.1.len
      have h2 := s1.2.1
      have h3 := s1.2.2
      simp only [List.nil_append] at h2 h3 h1
      exact ⟨by omega, by rw [h2]; omega, by rw [h3]; simp; omega⟩)
    exact hcnt _ (s1.trans t1) (by simp; omega)
  · simp only [show ¬ (12 : Nat) = 0 by omega, if_false]
    exact hcnt _ s1 (by omega)
/-- A tree is no deeper than it needs. -/
def Top (f : Nat → Option (List UInt8)) (d : Nat) : Prop := d = 0 ∨ ∃ j, f j ≠ none ∧ roomN (d - 1) ≤ j
theorem Held.swap {st : St} {A B : List Nat} (h : Held st (A ++ B)) : Held st (B ++ A) := ⟨h.1, fun a => by have := h.2 a; rw [List.count_append] at *; omega⟩
/-- A block put where there is room. -/
theorem put_more {key name : List UInt8} {st : St} {r : Pr} {d i : Nat} {b : List UInt8} {f : Nat → Option (List UInt8)} {S X : List Nat} (ht : Tree key name st r d f S) (htop : Top f d) (hH : Held st (S ++ X)) (hi : i < roomN 5) (hb : st.b.length ≤ 999000) (hr : st.count + 11 < st.room) :
    (putT key name st r d i b).1.2.2 = 0 ∧ ∃ S', Tree key name (putS key name st r d i b) (putT key name st r d i b).1.1 (putT key name st r d i b).1.2.1 (upd f i (some b)) S' ∧ Top (upd f i (some b)) (putT key name st r d i b).1.2.1 ∧ Held (putS key name st r d i b) (S' ++ X) ∧
      (putS key name st r d i b).count ≤ st.count + 11 ∧ (∀ n ∈ X, ∀ x, st.at n = some x → (putS key name st r d i b).at n = some x) ∧ (putS key name st r d i b).b.length ≤ st.b.length + 12 ∧ (putS key name st r d i b).room = st.room := by
  obtain ⟨h1, h2, h3, h4⟩ := putT_rep (b := b) ht hH hi hb
  have h5 := putT_count (b := b) ht hH.1 hi hb
  rcases h4 with ⟨c, S', a1, a2, a3, a4⟩ | ⟨_, _, _, h⟩
  · refine ⟨c, S', a1, ?_, a2, h5, h1, h2, h3⟩
    rcases a4 with e | ⟨e1, e2⟩
    · rw [e]
      rcases htop with h | ⟨j, h, h'⟩
      · exact .inl h
      · refine .inr ⟨j, ?_, h'⟩
        unfold upd
        split
        · simp
        · exact h
    · exact .inr ⟨i, by simp [upd], e2⟩
  · omega
/-- Two trees in one store. -/
structure Two (key name : List UInt8) (st : St) (r r2 : Pr) (d d2 : Nat) (l l2 : List Nat) : Prop where
  ex : ∃ S S2, Tree key name st r d (blks l) S ∧ Top (blks l) d ∧ Tree key name st r2 d2 (blks l2) S2 ∧ Top (blks l2) d2 ∧ Held st (S ++ S2)
  count : st.count ≤ 11 * (l.length + l2.length)
  room : st.room = 200
  len : st.b.length ≤ 12 * (l.length + l2.length)
theorem two_new (key name : List UInt8) : Two key name (St.new 200) Pr.zero Pr.zero 0 0 [] [] :=
  ⟨⟨[], [], tree_nil key name _, .inl rfl, tree_nil key name _, .inl rfl, held_new 200⟩, Nat.le_refl _, rfl, Nat.le_refl _⟩
theorem Two.swap {key name : List UInt8} {st : St} {r r2 : Pr} {d d2 : Nat} {l l2 : List Nat} (h : Two key name st r r2 d d2 l l2) : Two key name st r2 r d2 d l2 l := by
  obtain ⟨⟨S, S2, h1, h2, h3, h4, h5⟩, h6, h7, h8⟩ := h
  exact ⟨⟨S2, S, h3, h4, h1, h2, h5.swap⟩, by omega, h7, by omega⟩
theorem Two.put {key name : List UInt8} {st : St} {r r2 : Pr} {d d2 : Nat} {l l2 : List Nat} (h : Two key name st r r2 d d2 l l2) {k : Nat} (hk : k < 3000) (hl : l.length + l2.length ≤ 15) :
    (putT key name st r d k (blN k)).1.2.2 = 0 ∧ Two key name (putS key name st r d k (blN k)) (putT key name st r d k (blN k)).1.1 r2 (putT key name st r d k (blN k)).1.2.1 d2 (l ++ [k]) l2 := by
  obtain ⟨⟨S, S2, h1, h2, h3, h4, h5⟩, h6, h7, h8⟩ := h
  have h5r : roomN 5 = 537824 := rfl
  obtain ⟨c, S', a1, a2, a3, a4, a5, a6, a7⟩ := put_more (b := blN k) h1 h2 h5 (i := k) (by omega) (by omega) (by omega)
  rw [upd_blks] at a1 a2
  refine ⟨c, ⟨S', S2, a1, a2, h3.sub a5, h4, a3⟩, ?_, by rw [a7]; exact h7, ?_⟩
  · rw [List.length_append, List.length_singleton]; omega
  · rw [List.length_append, List.length_singleton]; omega
theorem Top.uniq {f : Nat → Option (List UInt8)} {d d2 : Nat} (h1 : Top f d) (h2 : Top f d2) (o1 : ∀ j, roomN d ≤ j → f j = none) (o2 : ∀ j, roomN d2 ≤ j → f j = none) : d = d2 := by
  have key1 : ∀ {a b : Nat}, Top f b → (∀ j, roomN a ≤ j → f j = none) → ¬ a < b := fun {a b} h o hl => by
    rcases h with h | ⟨j, h, h'⟩
    · omega
    · apply h
      apply o
      have : roomN a ≤ roomN (b - 1) := Nat.pow_le_pow_right (by omega) (by omega)
      omega
  have := key1 h1 o2
  have := key1 h2 o1
  omega
/-- The same blocks: as many sectors, as deep. -/
theorem Two.same {key name : List UInt8} {st : St} {r r2 : Pr} {d d2 : Nat} {l l2 : List Nat} (h : Two key name st r r2 d d2 l l2) (hl : ∀ j, j ∈ l ↔ j ∈ l2) :
    d = d2 ∧ ∃ S S2, secT key name st r (d : Int) = (0, S) ∧ secT key name st r2 (d2 : Int) = (0, S2) ∧ S.length = S2.length := by
  obtain ⟨⟨S, S2, h1, h2, h3, h4, h5⟩, h6, h7, h8⟩ := h
  have e : blks l = blks l2 := by
    funext j
    unfold blks
    by_cases hj : j ∈ l
    · rw [if_pos hj, if_pos ((hl j).1 hj)]
    · rw [if_neg hj, if_neg fun h => hj ((hl j).2 h)]
  rw [← e] at h3 h4
  have hd := h2.uniq h4 h1.out h3.out
  refine ⟨hd, S, S2, h1.secT, h3.secT, ?_⟩
  rw [h1.count, h3.count, hd]
/-- Numbers told one further, all round. -/
theorem rot_mem {n s : Nat} {g : Nat → Nat} (hs : s < n) : ∀ j, j ∈ (List.range n).map g ↔ j ∈ (List.range n).map fun i => g ((i + s) % n) := by
  intro j
  simp only [List.mem_map, List.mem_range]
  constructor
  · rintro ⟨i, hi, rfl⟩
    refine ⟨(i + n - s) % n, Nat.mod_lt _ (by omega), ?_⟩
    rw [Nat.mod_add_mod, show i + n - s + s = i + n by omega, Nat.add_mod_right, Nat.mod_eq_of_lt hi]
  · rintro ⟨i, hi, rfl⟩
    exact ⟨(i + s) % n, Nat.mod_lt _ (by omega), rfl⟩
theorem map_snoc (g : Nat → Nat) (i : Nat) : (List.range i).map g ++ [g i] = (List.range (i + 1)).map g := by rw [List.range_succ, List.map_append]; rfl
end Go.Mt
namespace Go.Mt
open Go Go.Kx Go.Proofs.YtfngacepjcdlnaaDoor
theorem putT_wf {key name : List UInt8} {st : St} {r r2 : Pr} {d d2 : Nat} {l l2 : List Nat} (h : Two key name st r r2 d d2 l l2) {k : Nat} (hk : k < 3000) (hl : l.length + l2.length ≤ 15) : (putT key name st r d k (blN k)).1.1.wf := by
  obtain ⟨_, ⟨⟨S, S2, h1, h2, h3, h4, h5⟩, h6, h7, h8⟩⟩ := h.put hk hl
  rw [List.length_append, List.length_singleton] at h8
  exact h1.wf (by omega)
end Go.Mt

namespace Go.Mt
open Go Go.Kx Go.Proofs.YtfngacepjcdlnaaDoor
theorem bl_oct (k : Nat) : (1 + ((k : Int) % 250)) = ((1 + k % 250 : Nat) : Int) := by omega
end Go.Mt
namespace Go.Proofs.YtfngacepjcdlnaaDoor
open Go Go.Kx Go.Kr Go.Mt
theorem own_db {w : World} {b : Nat} {l : List UInt8} (h : Own w 5 1 (some ⟨b, 0, none⟩) 512 512 (ints .u8 (bs8 l))) : SlE w .u8 (some ⟨b, 0, none⟩) 512 512 (bs8 l) (fun j => j = b) := h.sl.e fun j hj => by simpa [blkOf] using hj.symm
/-- A slice of numbers, one read. -/
theorem sl_get {w : World} {a : Option Addr} {len cap : Nat} {z : List Int} (h : Sl w .i64 a len cap z) (h0 : 0 < len) : ∃ b off, a = some ⟨b, off, none⟩ ∧ Seg w b off (ints .i64 z) := by
  rcases h.mem with ⟨_, h2⟩ | ⟨b, off, e, _, hs⟩
  · have := h.le; omega
  · exact ⟨b, off, e, hs⟩
set_option maxRecDepth 100000 in
set_option maxHeartbeats 64000000 in
theorem order_row (W : World) (hC : ∃ fz, Blk W 1 243 fz (ints .u64 (ws kSha))) (a : Option Addr) (len cap : Nat) (z : List Int) (hz : Sl W .i64 a len cap z) (turn : Int) (ht : -9223372036854775808 ≤ turn ∧ turn ≤ 9223372036854775807) :
    Calls Tryd.prog 9 #[.slice a len cap, .int .i64 turn] W fun e w' => e = .returned (.bool true) ∧ RowKit.Below W.heap.size W w' := by
  have hlz := hz.len_eq
  subst hlz
  have hCk : ∀ {w'}, Kp No W w' → ∃ fz, Blk w' 1 243 fz (ints .u64 (ws kSha)) := fun k => by obtain ⟨fz, hc⟩ := hC; exact ⟨fz, hc.kp k fun h => h⟩
  have hC1 : 1 < W.heap.size := by obtain ⟨fz, hc⟩ := hC; exact hc.lt
  refine calls_at (n := 188) Tryd.func9 rfl rfl (by simp) ?_
  (refine At_seq ?_; refine At_region ?_; refine s_as ?_; refine AtR_nil ?_; refine At_seq ?_; refine At_seq ?_; refine At_region ?_)
  refine s_call x_call (awake16_calls _ hC) ?_
  rintro _ w1 ⟨rfl, K1⟩
  refine ⟨_, rfl, ?_⟩
  by_cases hs1 : z.length = 0
  · (refine s_nt ?_; refine s_mv ?_; refine s_yes rfl rfl rfl rfl ?_; refine g_mv ?_; refine s_yes rfl rfl rfl rfl ?_; refine g_ln ?_; refine s_yes rfl rfl rfl rfl ?_; refine g_eql ?_; refine s_pf ?_; refine s_mv ?_; refine s_no rfl rfl rfl rfl ?_; refine s_no rfl rfl rfl rfl ?_; refine s_no rfl rfl rfl rfl ?_; refine s_pt ?_; refine AtR_nil ?_; refine At_cond_t rfl ?_; refine At_seq ?_; refine At_region ?_)
    refine s_call x_call (awake16_calls _ (hCk K1)) ?_
    rintro _ w2 ⟨rfl, k2⟩
    refine ⟨_, rfl, ?_⟩
    (refine s_as ?_; refine AtR_nil ?_)
    refine At_ret1 Tryd.func9 rfl (by conv => lhs; whnf) ?_
    exact ⟨rfl, Kp.below (K1.trans k2)⟩
  by_cases hs2 : 8 < z.length
  · (refine s_nt ?_; refine s_mv ?_; refine s_yes rfl rfl rfl rfl ?_; refine g_mv ?_; refine s_yes rfl rfl rfl rfl ?_; refine g_ln ?_; refine s_yes rfl rfl rfl rfl ?_; refine g_eql ?_; refine s_pf ?_; refine s_mv ?_; refine s_yes rfl rfl rfl rfl ?_; refine g_mv ?_; refine s_yes rfl rfl rfl rfl ?_; refine g_ln ?_; refine s_yes rfl rfl rfl rfl ?_; refine g_gtr ?_; refine s_pf ?_; refine AtR_nil ?_; refine At_cond_t rfl ?_; refine At_seq ?_; refine At_region ?_)
    refine s_call x_call (awake16_calls _ (hCk K1)) ?_
    rintro _ w2 ⟨rfl, k2⟩
    refine ⟨_, rfl, ?_⟩
    (refine s_as ?_; refine AtR_nil ?_)
    refine At_ret1 Tryd.func9 rfl (by conv => lhs; whnf) ?_
    exact ⟨rfl, Kp.below (K1.trans k2)⟩
  obtain ⟨ba, off, rfl, hseg⟩ := sl_get hz (by omega)
  have lba : ba < W.heap.size := hz.lt ba rfl
  (refine s_nt ?_; refine s_mv ?_; refine s_yes rfl rfl rfl rfl ?_; refine g_mv ?_; refine s_yes rfl rfl rfl rfl ?_; refine g_ln ?_; refine s_yes rfl rfl rfl rfl ?_; refine g_eql ?_; refine s_pf ?_; refine s_mv ?_; refine s_yes rfl rfl rfl rfl ?_; refine g_mv ?_; refine s_yes rfl rfl rfl rfl ?_; refine g_ln ?_; refine s_yes rfl rfl rfl rfl ?_; refine g_gtr ?_; refine s_pf ?_; refine AtR_nil ?_; refine At_cond_f rfl ?_; refine At_skip ?_; refine At_seq ?_; refine At_region ?_)
  refine s_val (x_build rfl (built51 200)) ?_
  refine AtR_go rfl (AtG_box rfl fun sp w2 hsp e2 => ?_)
  have SP : Blk w2 sp 51 (0, 0) [.slice none 0 0, .slice none 0 0, .int .i64 ((200 : Nat) : Int)] := e2.blk
  have k2 : Kp No w1 w2 := e2.kp (.inr (by omega))
  have hst2 := st_new SP (by omega)
  clear e2
  have lsp := SP.lt
  have z1 := K1.size
  have z2 := k2.size
  (refine s_as ?_; refine AtR_nil ?_; refine At_seq ?_; refine At_region ?_; refine s_mv ?_)
  refine AtR_go rfl (AtG_buildSlice1 (ops := [_, _, _]) rfl rfl (by omega) rfl rfl rfl fun b10 w3 hb10 e3 => ?_)
  have B10 : Blk w3 b10 5 (0, 0) (ints .u8 (bs8 [107, 101, 121])) := e3.blk
  have k3 : Kp No w2 w3 := e3.kp (.inr (by omega))
  clear e3
  have l10 := B10.lt
  refine AtR_go rfl (G_val (r_conv_same rfl B10) ?_)
  rintro _ w4 ⟨rfl, ⟨f10, B10a⟩, k4⟩
  refine AtR_go rfl (AtG_buildSlice1 (ops := [_, _, _, _]) rfl rfl (by omega) rfl rfl rfl fun b12 w5 hb12 e5 => ?_)
  have B12 : Blk w5 b12 5 (0, 0) (ints .u8 (bs8 [110, 97, 109, 101])) := e5.blk
  have k5 : Kp No w4 w5 := e5.kp (.inr (by omega))
  clear e5
  refine AtR_go rfl (G_val (r_conv_same rfl B12) ?_)
  rintro _ w6 ⟨rfl, ⟨f12, B12a⟩, k6⟩
  have z3 := k3.size
  have z4 := k4.size
  have z5 := k5.size
  have z6 := k6.size
  have K4 : Kp No w2 w4 := k3.trans' k4 (by rintro j rfl; right; omega)
  have K6 : Kp No w2 w6 := (K4.trans k5).trans' k6 (by rintro j rfl; right; omega)
  have h1012 : b10 ≠ b12 := by omega
  have B10b := (B10a.kp k5 fun h => h).kp k6 h1012
  have KW6 := (K1.trans k2).trans K6
  refine s_call x_call (grove_wood sp [107, 101, 121] [110, 97, 109, 101] (some ⟨b10, 0, none⟩) (some ⟨b12, 0, none⟩) 3 4 _ (hst2.kpn K6) (hCk KW6) (by omega) ((B10b.sl (m := 3) rfl (by omega)).e (D := fun _ => True) fun _ _ => trivial) (fun h => by cases h) ((B12a.sl (m := 4) rfl (by omega)).e (D := fun _ => True) fun _ _ => trivial) (fun h => by cases h) ⟨by simp, by simp⟩) ?_
  rintro _ w7 ⟨g, bo, Dg, rfl, hW7, hDg, k7⟩
  refine ⟨_, rfl, ?_⟩
  (refine s_as ?_; refine AtR_nil ?_; refine At_seq ?_; refine At_seq ?_; refine At_region ?_; refine s_mv ?_; refine s_eqlp ?_; refine AtR_nil ?_; refine At_cond_f rfl ?_; refine At_skip ?_; refine At_seq ?_; refine At_region ?_)
  refine AtR_go rfl (AtG_alloc fun b7 w8 hb7 e8 => ?_)
  have B7 : Blk w8 b7 40 (0, 0) (trC Pr.zero ((0 : Nat) : Int)) := e8.blk
  have k8 : Kp No w7 w8 := e8.kp (.inr (by omega))
  refine AtR_go rfl (AtG_alloc fun b8 w9 hb8 e9 => ?_)
  have B8 : Blk w9 b8 40 (0, 0) (trC Pr.zero ((0 : Nat) : Int)) := e9.blk
  have k9 : Kp No w8 w9 := e9.kp (.inr (by omega))
  have l7 := B7.lt
  have B7a := B7.kp k9 fun h => h
  have K9 := (KW6.trans k7).trans (k8.trans k9)
  have hW9 := hW7.kpn (k8.trans k9)
  have z7 := k7.size
  have z8 := k8.size
  have z9 := k9.size
  have l8 := B8.lt
  have h78 : b7 ≠ b8 := by omega
  have hng : ∀ j, w7.heap.size ≤ j → ¬ Dg j := fun j hj hd => by have := (hW7.sep j hd).2; omega
  clear e8 e9
  have hn0 : 0 < z.length := by omega
  obtain ⟨hsv, hslt, hs3, hs4⟩ := wrapN_val (x := turn) hn0
  obtain ⟨s, hs⟩ : ∃ s, s = wrapN turn z.length := ⟨_, rfl⟩
  rw [← hs] at hsv hslt
  let G : Nat → Nat := fun i => wrapN (z.getD i 0) 3000
  have hG3 : ∀ i, G i < 3000 := fun i => (wrapN_val (x := z.getD i 0) (m := 3000) (by omega)).2.1
  let M : Nat → Nat := fun i => G ((i + s) % z.length)
  have hread : ∀ {w' : World}, Kp No W w' → ∀ i, i < z.length → Seg w' ba off (ints .i64 z) ∧ (ints .i64 z)[i]? = some (.int .i64 (z.getD i 0)) := fun {w'} k i hi => ⟨hseg.kp k (fun h => h) lba, by simp [ints, List.getD, hi]⟩
  (refine AtR_nil ?_; refine At_seq ?_; refine At_seq ?_; refine At_region ?_; refine s_as ?_; refine AtR_nil ?_; refine At_block ?_)
  refine At_while (fun s : Nat × (Pr × Nat) × (Pr × Nat) × St => [(0, .slice (some ⟨ba, off, none⟩) z.length cap), (1, .int .i64 turn), (6, .pointer (some ⟨g, 0, none⟩)), (7, .pointer (some ⟨b7, 0, none⟩)), (8, .pointer (some ⟨b8, 0, none⟩)), (9, .int .i64 (s.1 : Int))])
    (fun s w' => s.1 ≤ z.length ∧ Two [107, 101, 121] [110, 97, 109, 101] s.2.2.2 s.2.1.1 s.2.2.1.1 s.2.1.2 s.2.2.1.2 ((List.range s.1).map G) ((List.range s.1).map M) ∧ Blk w' b7 40 (0, 0) (trC s.2.1.1 (s.2.1.2 : Int)) ∧ Blk w' b8 40 (0, 0) (trC s.2.2.1.1 (s.2.2.1.2 : Int)) ∧
      (∃ Ds, Wood w' g sp bo [107, 101, 121] [110, 97, 109, 101] s.2.2.2 Ds Dg ∧ ∀ j, Ds j → W.heap.size ≤ j ∧ j ≠ b7 ∧ j ≠ b8) ∧ Kp No W w') (fun s => z.length - s.1) (0, (Pr.zero, 0), (Pr.zero, 0), St.new 200) ⟨rfl, rfl, rfl, rfl, rfl, rfl, trivial⟩
    ⟨by omega, two_new _ _, B7a, B8, ⟨_, hW9, by rintro j rfl; exact ⟨by omega, by omega, by omega⟩⟩, K9⟩ ?_
  clear B7a B7 B8 hW9
  rintro ⟨i, ⟨r, d⟩, ⟨r2, d2⟩, st⟩ w10 junk ⟨hi, hT, B7, B8, ⟨Ds, hW, hDs⟩, K10⟩ again
  simp only at hi hT B7 B8 hW again ⊢
  by_cases hlt : i < z.length
  · have hvk : ∀ k, ((z.getD k 0).tmod 3000 + 3000) % 3000 = (G k : Int) ∧ G k < 3000 ∧ -(3000 : Int) < (z.getD k 0).tmod 3000 ∧ (z.getD k 0).tmod 3000 < 3000 := fun k => by
      obtain ⟨h1, h2, h3, h4⟩ : ((z.getD k 0).tmod 3000 + 3000).tmod 3000 = (G k : Int) ∧ G k < 3000 ∧ -(3000 : Int) < (z.getD k 0).tmod 3000 ∧ (z.getD k 0).tmod 3000 < 3000 := wrapN_val (m := 3000) (by omega)
      exact ⟨by rw [← h1, rem_nn (a := (z.getD k 0).tmod 3000 + 3000) (by omega)], h2, h3, h4⟩
    obtain ⟨v1, v2, v3, v4⟩ := hvk i
    obtain ⟨sg1, sg2⟩ := hread K10 i hlt
    have hJ : ((i : Int) + (s : Int)) % (z.length : Int) = (((i + s) % z.length : Nat) : Int) := by rw [← Int.natCast_add, ← Int.natCast_emod]
    have hsv' : (turn.tmod (z.length : Int) + (z.length : Int)) % (z.length : Int) = (s : Int) := by rw [← hsv, rem_nn (a := turn.tmod (z.length : Int) + (z.length : Int)) (by omega)]
    have hJl : (i + s) % z.length < z.length := Nat.mod_lt _ hn0
    obtain ⟨u1, u2, u3, u4⟩ := hvk ((i + s) % z.length)
    (refine At_seq ?_; refine At_seq ?_; refine At_region ?_; refine s_mv ?_; refine s_mv ?_; refine s_ln ?_; refine s_lss ?_; refine AtR_nil ?_; refine At_cond_t rfl ?_; refine At_skip ?_; refine At_seq ?_; refine At_block ?_; refine At_seq ?_; refine At_region ?_; refine s_mv ?_; refine s_mv ?_; refine s_ia ?_; refine s_ld ?_)
    refine s_val (x_rem rfl rfl (by omega)) ?_
    (refine s_ad ?_; refine s_rm ?_; refine s_as ?_; refine AtR_nil ?_; refine At_seq ?_; refine At_region ?_; refine s_mv ?_; refine s_mv ?_; refine s_mv ?_; refine s_ln ?_)
    rw [v1]
    refine s_val (x_rem rfl rfl (by omega)) ?_
    (refine s_mv ?_; refine s_ln ?_; refine s_ad ?_; refine s_mv ?_; refine s_ln ?_; refine s_rm ?_; refine s_ad ?_; refine s_mv ?_; refine s_ln ?_; refine s_rm ?_; refine s_as ?_; refine AtR_nil ?_; refine At_seq ?_; refine At_region ?_; refine s_mv ?_; refine s_mv ?_)
    rw [hsv']
    (refine s_ia ?_; refine s_ld ?_)
    rw [hJ]
    have hMi : M i = G ((i + s) % z.length) := rfl
    generalize (i + s) % z.length = jj at *
    skip
    rw [Int.toNat_natCast]
    refine s_val (x_rem rfl rfl (by omega)) ?_
    obtain ⟨u3a, u4a⟩ : -(3000 : Int) < (z.getD jj 0).tmod 3000 ∧ (z.getD jj 0).tmod 3000 < 3000 := ⟨u3, u4⟩
    (refine s_ad ?_; refine s_rm ?_; refine s_as ?_; refine AtR_nil ?_; refine At_seq ?_)
    rw [u1]
    have hng78 := hng
    have h5r : roomN 5 = 537824 := rfl
    obtain ⟨hc0, hT1⟩ := hT.put v2 (by simp; omega)
    rw [map_snoc] at hT1
    have hr : r.wf ∧ d ≤ 5 := by
      obtain ⟨⟨S, S2, t1, t2, t3, t4, t5⟩, _⟩ := hT
      exact ⟨t1.wf hW.stt.few.1, t1.le⟩
    have hr34 := trC_length hr.1 (d : Int)
    have hlen10 : st.b.length ≤ 200 := by have := hT.len; simp at this; omega
    obtain ⟨q, hq⟩ : ∃ q, q = putT [107, 101, 121] [110, 97, 109, 101] st r d (G i) (blN (G i)) := ⟨_, rfl⟩
    obtain ⟨st1, hst1⟩ : ∃ st1, st1 = putS [107, 101, 121] [110, 97, 109, 101] st r d (G i) (blN (G i)) := ⟨_, rfl⟩
    have hput : ∀ {wx : World} {bx : Nat}, Kp No w10 wx → w10.heap.size ≤ bx → Own wx 5 1 (some ⟨bx, 0, none⟩) 512 512 (ints .u8 (bs8 (blN (G i)))) →
        Calls Tryd.prog 25 #[.pointer (some ⟨g, 0, none⟩), .agg (trC r (d : Int)).toArray, .int .i64 (G i : Int), .slice (some ⟨bx, 0, none⟩) 512 512] wx fun e w' => e = .returned (.tuple #[.agg (trC q.1.1 (q.1.2.1 : Int)).toArray, .int .i64 0]) ∧
          ∃ Ds', Wood w' g sp bo [107, 101, 121] [110, 97, 109, 101] st1 Ds' Dg ∧ (∀ j, Ds' j → Ds j ∨ wx.heap.size ≤ j) ∧ Kp Ds wx w' := by
      intro wx bx kx hbx hox
      have hlx := hox.lt bx rfl
      refine (Put_wood g sp bo _ _ st r d (G i) (blN (G i)) _ 512 _ (hW.kpn kx) hr.1 hr.2 (by omega) (blockB_length _) (own_db hox) (by rintro j rfl; exact ⟨fun hd => by have := hW.stt.dlt _ hd; omega, hlx⟩) (by omega)).mono ?_
      unfold putV
      rw [if_pos hc0, hc0, ← hq, ← hst1]
      exact fun e w' h => h
    rw [← hq, ← hst1] at hT1
    clear hst1
    have aq34 : (trC q.1.1 (q.1.2.1 : Int)).length = 34 := by
      rw [hq]; exact trC_length (putT_wf hT v2 (by simp; omega)) _
    clear hq
    skip
    refine At_meet (σ := Unit) (fun _ => [(0, .slice (some ⟨ba, off, none⟩) z.length cap), (1, .int .i64 turn), (6, .pointer (some ⟨g, 0, none⟩)), (7, .pointer (some ⟨b7, 0, none⟩)), (8, .pointer (some ⟨b8, 0, none⟩)), (9, .int .i64 (i : Int)), (12, .int .i64 (G jj : Int))])
      (fun _ w' => ∃ Ds', Wood w' g sp bo [107, 101, 121] [110, 97, 109, 101] st1 Ds' Dg ∧ (∀ j, Ds' j → W.heap.size ≤ j ∧ j ≠ b7 ∧ j ≠ b8) ∧ Blk w' b7 40 (0, 0) (trC q.1.1 (q.1.2.1 : Int)) ∧ Blk w' b8 40 (0, 0) (trC r2 (d2 : Int)) ∧ Kp No W w') ?_ ?_
    rotate_left
    · intro join
      have kd := Kp.drew (S := No) (w := w10)
      have hS : True := trivial
      have Bb7d := B7.kp kd fun h => h
      have Bb8d := B8.kp kd fun h => h
      have lt7 := B7.lt
      have lt8 := B8.lt
      have zW := K10.size
      have hng : ∀ j, w10.heap.size ≤ j → ¬ Dg j := fun j hj hd => by have := (hW.sep j hd).2; omega
      have fin : ∀ {wx wa wb : World} {Ds' : Nat → Prop}, Wood wa g sp bo [107, 101, 121] [110, 97, 109, 101] st1 Ds' Dg → (∀ j, Ds' j → Ds j ∨ wx.heap.size ≤ j) → Kp No w10 wx → Kp Ds wx wa → Eff wa wb b7 (.cells (trC q.1.1 (q.1.2.1 : Int)).toArray 40 (0, 0)) →
          ∃ Ds', Wood wb g sp bo [107, 101, 121] [110, 97, 109, 101] st1 Ds' Dg ∧ (∀ j, Ds' j → W.heap.size ≤ j ∧ j ≠ b7 ∧ j ≠ b8) ∧ Blk wb b7 40 (0, 0) (trC q.1.1 (q.1.2.1 : Int)) ∧ Blk wb b8 40 (0, 0) (trC r2 (d2 : Int)) ∧ Kp No W wb := fun {wx wa wb Ds'} hw hD kx ka he => by
        have zx := kx.size
        have hDs' : ∀ j, Ds' j → W.heap.size ≤ j ∧ j ≠ b7 ∧ j ≠ b8 := fun j hj => (hD j hj).elim (hDs j) fun h => ⟨by omega, by omega, by omega⟩
        have k : Kp (fun j => j = b7) wa wb := he.kp (.inl rfl)
        exact ⟨Ds', hw.kp k (by rintro j rfl; exact ⟨fun hd => by have := hDs' _ hd; omega, hng78 _ (by omega)⟩), hDs', he.blk, ((B8.kp kx fun h => h).kp ka (fun hd => by have := hDs _ hd; omega)).kp k (by omega), ((K10.trans kx).trans' ka (fun j hd => .inr (hDs j hd).1)).trans' k (by rintro j rfl; right; omega)⟩
      refine At_draw (fun _ => True) rfl ?_
      (apply AtH_take 0 rfl (by decide +kernel) (by exact rfl); (focus (intro wx hx; skip; exact x_move (by conv => lhs; whnf))); (focus (exact hS)))
      (apply AtH_take 2 rfl (by decide +kernel) (by exact rfl); (focus (intro wx hx; skip; exact x_move (by conv => lhs; whnf))); (focus (exact hS)))
      (apply AtH_take 3 rfl (by decide +kernel) (by exact rfl); (focus (intro wx hx; skip; exact x_move (by conv => lhs; whnf))); (focus (exact hS)))
      -- ready now: 1 load 40 t7, 4 binOp rem 3 t85 250:i64 3
      refine AtH_take 4 rfl (by decide +kernel) (by exact rfl) (fun wx hx => x_remI rfl rfl (by omega) (by omega)) hS ?_
      (apply AtH_take 5 rfl (by decide +kernel) (by exact rfl); (focus (intro wx hx; skip; exact x_add64 rfl rfl (by omega) (by omega))); (focus (exact hS)))
      -- ready now: 1 load 40 t7, 6 convert 3 5 t87
      rw [bl_oct]
      refine AtH_take 6 rfl (by decide +kernel) (by exact rfl) (fun wx hx => x_conv_i8 rfl) hS ?_
      refine AtH_two 1 7 (by decide +kernel) ?_ ?_
      · refine OpH_val rfl (by exact rfl) (Q1 := fun v w1 => v = .agg (trC r (d : Int)).toArray ∧ w1 = w10.drew) ⟨_, _, x_load_all rfl Bb7d hr34, rfl, rfl⟩ ?_
        rintro _ _ ⟨rfl, rfl⟩
        refine ⟨trivial, ?_⟩
        refine AtH_call 7 rfl (by decide +kernel) (by exact rfl) x_call  (block_calls _ _) ?_
        rintro _ wA ⟨bx, rfl, hox, hbx, kA⟩
        refine ⟨_, rfl, trivial, ?_⟩
        have zd := kd.size
        refine AtH_call 8 rfl (by decide +kernel) (by exact rfl) x_call  (hput (kd.trans kA) (by omega) hox) ?_
        rintro _ wB ⟨rfl, Ds', hWB, hDB, kB⟩
        refine ⟨_, rfl, trivial, ?_⟩
        (apply AtH_take 9 rfl (by decide +kernel) (by exact rfl); (focus (intro wx hx; skip; exact x_move (by conv => lhs; whnf))); (focus (exact hS)))
        (apply AtH_take 10 rfl (by decide +kernel) (by exact rfl); (focus (intro wx hx; skip; exact x_extract rfl rfl)); (focus (exact hS)))
        (apply AtH_take 11 rfl (by decide +kernel) (by exact rfl); (focus (intro wx hx; skip; exact x_extract rfl rfl)); (focus (exact hS)))
        -- ready now: 12 store 40 t7 t91
        refine H_skip 12 rfl (by decide +kernel) (by exact rfl) (r_store_all (s := 34) (vs := trC q.1.1 (q.1.2.1 : Int)) rfl rfl ((Bb7d.kp kA fun h => h).kp kB (fun hd => by have := hDs _ hd; omega)) aq34 hr34 (trC_one _ _)) ?_
        intro wC eC
        refine ⟨trivial, ?_⟩
        refine AtH_done (by decide +kernel) ?_
        exact join () _ _ ⟨rfl, rfl, rfl, rfl, rfl, rfl, rfl, trivial⟩ (fin hWB hDB (kd.trans kA) kB eC)
      · refine OpH_call rfl (by exact rfl) x_call (block_calls _ _) ?_
        rintro _ wA ⟨bx, rfl, hox, hbx, kA⟩
        refine ⟨_, rfl, trivial, ?_⟩
        refine AtH_val 1 rfl (by decide +kernel) (by exact rfl) (x_load_all rfl (Bb7d.kp kA fun h => h) hr34) hS ?_
        have zd := kd.size
        refine AtH_call 8 rfl (by decide +kernel) (by exact rfl) x_call  (hput (kd.trans kA) (by omega) hox) ?_
        rintro _ wB ⟨rfl, Ds', hWB, hDB, kB⟩
        refine ⟨_, rfl, trivial, ?_⟩
        (apply AtH_take 9 rfl (by decide +kernel) (by exact rfl); (focus (intro wx hx; skip; exact x_move (by conv => lhs; whnf))); (focus (exact hS)))
        (apply AtH_take 10 rfl (by decide +kernel) (by exact rfl); (focus (intro wx hx; skip; exact x_extract rfl rfl)); (focus (exact hS)))
        (apply AtH_take 11 rfl (by decide +kernel) (by exact rfl); (focus (intro wx hx; skip; exact x_extract rfl rfl)); (focus (exact hS)))
        -- ready now: 12 store 40 t7 t91
        refine H_skip 12 rfl (by decide +kernel) (by exact rfl) (r_store_all (s := 34) (vs := trC q.1.1 (q.1.2.1 : Int)) rfl rfl ((Bb7d.kp kA fun h => h).kp kB (fun hd => by have := hDs _ hd; omega)) aq34 hr34 (trC_one _ _)) ?_
        intro wC eC
        refine ⟨trivial, ?_⟩
        refine AtH_done (by decide +kernel) ?_
        exact join () _ _ ⟨rfl, rfl, rfl, rfl, rfl, rfl, rfl, trivial⟩ (fin hWB hDB (kd.trans kA) kB eC)
    rintro _ w11 junk2 ⟨Ds1, hW11, hDs1, B7a, B8a, K11⟩
    obtain ⟨hc2, hT2⟩ := hT1.swap.put u2 (by simp; omega)
    have hr2 : r2.wf ∧ d2 ≤ 5 := by
      obtain ⟨⟨S, S2, t1, t2, t3, t4, t5⟩, _⟩ := hT1
      exact ⟨t3.wf hW11.stt.few.1, t3.le⟩
    have hr234 := trC_length hr2.1 (d2 : Int)
    have hlen11 : st1.b.length ≤ 212 := by have := hT1.len; simp at this; omega
    obtain ⟨q2, hq2⟩ : ∃ q, q = putT [107, 101, 121] [110, 97, 109, 101] st1 r2 d2 (G jj) (blN (G jj)) := ⟨_, rfl⟩
    obtain ⟨st2, hst2⟩ : ∃ st2, st2 = putS [107, 101, 121] [110, 97, 109, 101] st1 r2 d2 (G jj) (blN (G jj)) := ⟨_, rfl⟩
    have hput2 : ∀ {wx : World} {bx : Nat}, Kp No w11 wx → w11.heap.size ≤ bx → Own wx 5 1 (some ⟨bx, 0, none⟩) 512 512 (ints .u8 (bs8 (blN (G jj)))) →
        Calls Tryd.prog 25 #[.pointer (some ⟨g, 0, none⟩), .agg (trC r2 (d2 : Int)).toArray, .int .i64 (G jj : Int), .slice (some ⟨bx, 0, none⟩) 512 512] wx fun e w' => e = .returned (.tuple #[.agg (trC q2.1.1 (q2.1.2.1 : Int)).toArray, .int .i64 0]) ∧
          ∃ Ds', Wood w' g sp bo [107, 101, 121] [110, 97, 109, 101] st2 Ds' Dg ∧ (∀ j, Ds' j → Ds1 j ∨ wx.heap.size ≤ j) ∧ Kp Ds1 wx w' := by
      intro wx bx kx hbx hox
      have hlx := hox.lt bx rfl
      refine (Put_wood g sp bo _ _ st1 r2 d2 (G jj) (blN (G jj)) _ 512 _ (hW11.kpn kx) hr2.1 hr2.2 (by omega) (blockB_length _) (own_db hox) (by rintro j rfl; exact ⟨fun hd => by have := hW11.stt.dlt _ hd; omega, hlx⟩) (by omega)).mono ?_
      unfold putV
      rw [if_pos hc2, hc2, ← hq2, ← hst2]
      exact fun e w' h => h
    rw [← hq2, ← hst2] at hT2
    clear hst2
    have bq34 : (trC q2.1.1 (q2.1.2.1 : Int)).length = 34 := by
      rw [hq2]; exact trC_length (putT_wf hT1.swap u2 (by simp; omega)) _
    clear hq2
    replace hT2 := hT2.swap
    rw [← hMi, map_snoc] at hT2
    skip
    refine At_meet (σ := Unit) (fun _ => [(0, .slice (some ⟨ba, off, none⟩) z.length cap), (1, .int .i64 turn), (6, .pointer (some ⟨g, 0, none⟩)), (7, .pointer (some ⟨b7, 0, none⟩)), (8, .pointer (some ⟨b8, 0, none⟩)), (9, .int .i64 (i : Int))])
      (fun _ w' => ∃ Ds', Wood w' g sp bo [107, 101, 121] [110, 97, 109, 101] st2 Ds' Dg ∧ (∀ j, Ds' j → W.heap.size ≤ j ∧ j ≠ b7 ∧ j ≠ b8) ∧ Blk w' b8 40 (0, 0) (trC q2.1.1 (q2.1.2.1 : Int)) ∧ Blk w' b7 40 (0, 0) (trC q.1.1 (q.1.2.1 : Int)) ∧ Kp No W w') ?_ ?_
    rotate_left
    · intro join
      have kd := Kp.drew (S := No) (w := w11)
      have hS : True := trivial
      have Bb8d := B8a.kp kd fun h => h
      have Bb7d := B7a.kp kd fun h => h
      have lt7 := B8a.lt
      have lt8 := B7a.lt
      have zW := K11.size
      have hng : ∀ j, w11.heap.size ≤ j → ¬ Dg j := fun j hj hd => by have := (hW11.sep j hd).2; omega
      have fin : ∀ {wx wa wb : World} {Ds' : Nat → Prop}, Wood wa g sp bo [107, 101, 121] [110, 97, 109, 101] st2 Ds' Dg → (∀ j, Ds' j → Ds1 j ∨ wx.heap.size ≤ j) → Kp No w11 wx → Kp Ds1 wx wa → Eff wa wb b8 (.cells (trC q2.1.1 (q2.1.2.1 : Int)).toArray 40 (0, 0)) →
          ∃ Ds', Wood wb g sp bo [107, 101, 121] [110, 97, 109, 101] st2 Ds' Dg ∧ (∀ j, Ds' j → W.heap.size ≤ j ∧ j ≠ b7 ∧ j ≠ b8) ∧ Blk wb b8 40 (0, 0) (trC q2.1.1 (q2.1.2.1 : Int)) ∧ Blk wb b7 40 (0, 0) (trC q.1.1 (q.1.2.1 : Int)) ∧ Kp No W wb := fun {wx wa wb Ds'} hw hD kx ka he => by
        have zx := kx.size
        have hDs' : ∀ j, Ds' j → W.heap.size ≤ j ∧ j ≠ b7 ∧ j ≠ b8 := fun j hj => (hD j hj).elim (hDs1 j) fun h => ⟨by omega, by omega, by omega⟩
        have k : Kp (fun j => j = b8) wa wb := he.kp (.inl rfl)
        exact ⟨Ds', hw.kp k (by rintro j rfl; exact ⟨fun hd => by have := hDs' _ hd; omega, hng78 _ (by omega)⟩), hDs', he.blk, ((B7a.kp kx fun h => h).kp ka (fun hd => by have := hDs1 _ hd; omega)).kp k (by omega), ((K11.trans kx).trans' ka (fun j hd => .inr (hDs1 j hd).1)).trans' k (by rintro j rfl; right; omega)⟩
      refine At_draw (fun _ => True) rfl ?_
      (apply AtH_take 0 rfl (by decide +kernel) (by exact rfl); (focus (intro wx hx; skip; exact x_move (by conv => lhs; whnf))); (focus (exact hS)))
      (apply AtH_take 2 rfl (by decide +kernel) (by exact rfl); (focus (intro wx hx; skip; exact x_move (by conv => lhs; whnf))); (focus (exact hS)))
      (apply AtH_take 3 rfl (by decide +kernel) (by exact rfl); (focus (intro wx hx; skip; exact x_move (by conv => lhs; whnf))); (focus (exact hS)))
      -- ready now: 1 load 40 t8, 4 binOp rem 3 t97 250:i64 3
      refine AtH_take 4 rfl (by decide +kernel) (by exact rfl) (fun wx hx => x_remI rfl rfl (by omega) (by omega)) hS ?_
      (apply AtH_take 5 rfl (by decide +kernel) (by exact rfl); (focus (intro wx hx; skip; exact x_add64 rfl rfl (by omega) (by omega))); (focus (exact hS)))
      -- ready now: 1 load 40 t8, 6 convert 3 5 t99
      rw [bl_oct]
      refine AtH_take 6 rfl (by decide +kernel) (by exact rfl) (fun wx hx => x_conv_i8 rfl) hS ?_
      refine AtH_two 1 7 (by decide +kernel) ?_ ?_
      · refine OpH_val rfl (by exact rfl) (Q1 := fun v w1 => v = .agg (trC r2 (d2 : Int)).toArray ∧ w1 = w11.drew) ⟨_, _, x_load_all rfl Bb8d hr234, rfl, rfl⟩ ?_
        rintro _ _ ⟨rfl, rfl⟩
        refine ⟨trivial, ?_⟩
        refine AtH_call 7 rfl (by decide +kernel) (by exact rfl) x_call  (block_calls _ _) ?_
        rintro _ wA ⟨bx, rfl, hox, hbx, kA⟩
        refine ⟨_, rfl, trivial, ?_⟩
        have zd := kd.size
        refine AtH_call 8 rfl (by decide +kernel) (by exact rfl) x_call  (hput2 (kd.trans kA) (by omega) hox) ?_
        rintro _ wB ⟨rfl, Ds', hWB, hDB, kB⟩
        refine ⟨_, rfl, trivial, ?_⟩
        (apply AtH_take 9 rfl (by decide +kernel) (by exact rfl); (focus (intro wx hx; skip; exact x_move (by conv => lhs; whnf))); (focus (exact hS)))
        (apply AtH_take 10 rfl (by decide +kernel) (by exact rfl); (focus (intro wx hx; skip; exact x_extract rfl rfl)); (focus (exact hS)))
        (apply AtH_take 11 rfl (by decide +kernel) (by exact rfl); (focus (intro wx hx; skip; exact x_extract rfl rfl)); (focus (exact hS)))
        -- ready now: 12 store 40 t8 t103
        refine H_skip 12 rfl (by decide +kernel) (by exact rfl) (r_store_all (s := 34) (vs := trC q2.1.1 (q2.1.2.1 : Int)) rfl rfl ((Bb8d.kp kA fun h => h).kp kB (fun hd => by have := hDs1 _ hd; omega)) bq34 hr234 (trC_one _ _)) ?_
        intro wC eC
        refine ⟨trivial, ?_⟩
        refine AtH_done (by decide +kernel) ?_
        exact join () _ _ ⟨rfl, rfl, rfl, rfl, rfl, rfl, trivial⟩ (fin hWB hDB (kd.trans kA) kB eC)
      · refine OpH_call rfl (by exact rfl) x_call (block_calls _ _) ?_
        rintro _ wA ⟨bx, rfl, hox, hbx, kA⟩
        refine ⟨_, rfl, trivial, ?_⟩
        refine AtH_val 1 rfl (by decide +kernel) (by exact rfl) (x_load_all rfl (Bb8d.kp kA fun h => h) hr234) hS ?_
        have zd := kd.size
        refine AtH_call 8 rfl (by decide +kernel) (by exact rfl) x_call  (hput2 (kd.trans kA) (by omega) hox) ?_
        rintro _ wB ⟨rfl, Ds', hWB, hDB, kB⟩
        refine ⟨_, rfl, trivial, ?_⟩
        (apply AtH_take 9 rfl (by decide +kernel) (by exact rfl); (focus (intro wx hx; skip; exact x_move (by conv => lhs; whnf))); (focus (exact hS)))
        (apply AtH_take 10 rfl (by decide +kernel) (by exact rfl); (focus (intro wx hx; skip; exact x_extract rfl rfl)); (focus (exact hS)))
        (apply AtH_take 11 rfl (by decide +kernel) (by exact rfl); (focus (intro wx hx; skip; exact x_extract rfl rfl)); (focus (exact hS)))
        -- ready now: 12 store 40 t8 t103
        refine H_skip 12 rfl (by decide +kernel) (by exact rfl) (r_store_all (s := 34) (vs := trC q2.1.1 (q2.1.2.1 : Int)) rfl rfl ((Bb8d.kp kA fun h => h).kp kB (fun hd => by have := hDs1 _ hd; omega)) bq34 hr234 (trC_one _ _)) ?_
        intro wC eC
        refine ⟨trivial, ?_⟩
        refine AtH_done (by decide +kernel) ?_
        exact join () _ _ ⟨rfl, rfl, rfl, rfl, rfl, rfl, trivial⟩ (fin hWB hDB (kd.trans kA) kB eC)
    rintro _ w12 junk3 ⟨Ds2, hW12, hDs2, B8b, B7b, K12⟩
    (refine At_inBlock ?_; refine At_region ?_; refine s_mv ?_; refine s_ad ?_; refine s_as ?_; refine AtR_nil ?_)
    exact again (i + 1, (q.1.1, q.1.2.1), (q2.1.1, q2.1.2.1), st2) _ _ ⟨rfl, rfl, rfl, rfl, rfl, rfl, trivial⟩ ⟨hlt, hT2, B7b, B8b, ⟨Ds2, hW12, hDs2⟩, K12⟩ (by simp only; omega)
  have hie : i = z.length := by omega
  clear again
  subst hie
  have hsame := hT.same (rot_mem (g := G) hslt)
  obtain ⟨hdd, SS, SS2, hse1, hse2, hsel⟩ := hsame
  obtain ⟨⟨S, S2, t1, t2, t3, t4, t5⟩, t6, t7, t8⟩ := hT
  have hr := t1.wf hW.stt.few.1
  have hr2 := t3.wf hW.stt.few.1
  have hle := t1.le
  have hle2 := t3.le
  have hr34 := trC_length hr (d : Int)
  have hr234 := trC_length hr2 (d2 : Int)
  have hgot : ∀ i, i < z.length → blks ((List.range z.length).map G) (G i) = some (blN (G i)) ∧ blks ((List.range z.length).map M) (G i) = some (blN (G i)) := fun i hi => by
    have h1 : G i ∈ (List.range z.length).map G := List.mem_map.2 ⟨i, List.mem_range.2 hi, rfl⟩
    unfold blks
    exact ⟨if_pos h1, if_pos ((rot_mem (g := G) hslt (G i)).1 h1)⟩
  (refine At_seq ?_; refine At_seq ?_; refine At_region ?_; refine s_mv ?_; refine s_mv ?_; refine s_ln ?_; refine s_lss ?_; refine AtR_nil ?_; refine At_cond_f rfl ?_; refine At_exit rfl ?_; refine At_seq ?_; refine At_seq ?_; refine At_region ?_; refine s_as ?_; refine AtR_nil ?_; refine At_block ?_)
  refine At_while (fun i : Nat => [(0, .slice (some ⟨ba, off, none⟩) z.length cap), (6, .pointer (some ⟨g, 0, none⟩)), (7, .pointer (some ⟨b7, 0, none⟩)), (8, .pointer (some ⟨b8, 0, none⟩)), (13, .int .i64 (i : Int))])
    (fun i w' => i ≤ z.length ∧ Kp No w10 w') (fun i => z.length - i) 0 ⟨rfl, rfl, rfl, rfl, rfl, trivial⟩ ⟨by omega, Kp.refl _ _⟩ ?_
  rintro i w11 junk2 ⟨hi', K11⟩ again
  have B7c := B7.kp K11 fun h => h
  have B8c := B8.kp K11 fun h => h
  have hW11 := hW.kpn K11
  by_cases hlt : i < z.length
  · have hvk : ((z.getD i 0).tmod 3000 + 3000) % 3000 = (G i : Int) ∧ G i < 3000 ∧ -(3000 : Int) < (z.getD i 0).tmod 3000 ∧ (z.getD i 0).tmod 3000 < 3000 := by
      obtain ⟨h1, h2, h3, h4⟩ : ((z.getD i 0).tmod 3000 + 3000).tmod 3000 = (G i : Int) ∧ G i < 3000 ∧ -(3000 : Int) < (z.getD i 0).tmod 3000 ∧ (z.getD i 0).tmod 3000 < 3000 := wrapN_val (m := 3000) (by omega)
      exact ⟨by rw [← h1, rem_nn (a := (z.getD i 0).tmod 3000 + 3000) (by omega)], h2, h3, h4⟩
    obtain ⟨v1, v2, v3, v4⟩ := hvk
    obtain ⟨sg1, sg2⟩ := hread (K10.trans K11) i hlt
    obtain ⟨hg1, hg2⟩ := hgot i hlt
    (refine At_seq ?_; refine At_seq ?_; refine At_region ?_; refine s_mv ?_; refine s_mv ?_; refine s_ln ?_; refine s_lss ?_; refine AtR_nil ?_; refine At_cond_t rfl ?_; refine At_skip ?_; refine At_seq ?_; refine At_block ?_; refine At_seq ?_; refine At_region ?_; refine s_mv ?_; refine s_mv ?_; refine s_ia ?_; refine s_ld ?_)
    refine s_val (x_rem rfl rfl (by omega)) ?_
    (refine s_ad ?_; refine s_rm ?_; refine s_as ?_; refine AtR_nil ?_; refine At_seq ?_; refine At_region ?_; refine s_mv ?_)
    rw [v1]
    refine s_val (x_load_all rfl B7c hr34) ?_
    (refine s_mv ?_)
    refine s_call x_call (Get_calls g sp bo _ _ st r (d : Int) (G i : Int) _ hW11.gr hW11.stt hr (by omega) (by omega)) ?_
    rw [t1.getT (G i), hg1]
    rintro _ w12 ⟨k12, v, rfl, hv⟩
    refine ⟨_, rfl, ?_⟩
    obtain ⟨bv, cv, rfl, hsv1, hbv, _⟩ : OptAt w11 w12 (some (blN (G i))) v := hv
    have B8d := B8c.kp k12 fun h => h
    have hW12 := hW11.kpn k12
    (refine s_mv ?_; refine s_ex ?_; refine s_ex ?_; refine s_as ?_; refine s_as ?_; refine AtR_nil ?_; refine At_seq ?_; refine At_region ?_; refine s_mv ?_)
    refine s_val (x_load_all rfl B8d hr234) ?_
    (refine s_mv ?_)
    refine s_call x_call (Get_calls g sp bo _ _ st r2 (d2 : Int) (G i : Int) _ hW12.gr hW12.stt hr2 (by omega) (by omega)) ?_
    rw [t3.getT (G i), hg2]
    rintro _ w13 ⟨k13, v', rfl, hv'⟩
    refine ⟨_, rfl, ?_⟩
    obtain ⟨bv', cv', rfl, hsv2, hbv', _⟩ : OptAt w12 w13 (some (blN (G i))) v' := hv'
    (refine s_mv ?_; refine s_ex ?_; refine s_ex ?_; refine s_as ?_; refine s_as ?_; refine AtR_nil ?_; refine At_seq ?_)
    have kd := Kp.drew (S := No) (w := w13)
    let S0 : World → Prop := fun w' => Sl w' .u8 (some ⟨bv, 0, none⟩) 512 cv (bs8 (blN (G i))) ∧ Sl w' .u8 (some ⟨bv', 0, none⟩) 512 cv' (bs8 (blN (G i)))
    have hS : S0 w13.drew := ⟨hsv1.kpn (k13.trans kd), hsv2.kpn kd⟩
    refine At_draw S0 rfl ?_
    (apply AtH_take 0 rfl (by decide +kernel) (by exact rfl); (focus (intro wx hx; skip; exact x_move (by conv => lhs; whnf))); (focus (exact hS)))
    (apply AtH_bool 1 rfl (by decide +kernel) (by exact rfl); (focus (intro wx hx; skip; exact x_neq rfl rfl)); (focus (exact decide_eq_false (by omega))); (focus (exact hS)))
    (apply AtH_take 2 rfl (by decide +kernel) (by exact rfl); (focus (intro wx hx; skip; exact x_move (by conv => lhs; whnf))); (focus (exact hS)))
    (apply AtH_take 3 rfl (by decide +kernel) (by exact ⟨_, _, rfl, by decide, rfl, rfl⟩); (focus (intro wx hx; skip; exact x_move (by conv => lhs; whnf))); (focus (exact hS)))
    (apply AtH_bool 4 rfl (by decide +kernel) (by exact ⟨_, _, rfl, by decide, rfl, rfl⟩); (focus (intro wx hx; skip; exact x_neq rfl rfl)); (focus (exact decide_eq_false (by omega))); (focus (exact hS)))
    (apply AtH_take 5 rfl (by decide +kernel) (by exact rfl); (focus (intro wx hx; skip; exact x_pick_f rfl (by conv => lhs; whnf))); (focus (exact hS)))
    (apply AtH_take 6 rfl (by decide +kernel) (by exact rfl); (focus (intro wx hx; skip; exact x_move (by conv => lhs; whnf))); (focus (exact hS)))
    (apply AtH_take 7 rfl (by decide +kernel) (by exact ⟨_, _, rfl, by decide, rfl, rfl⟩); (focus (intro wx hx; skip; exact x_move (by conv => lhs; whnf))); (focus (exact hS)))
    (apply AtH_take 9 rfl (by decide +kernel) (by exact ⟨_, _, rfl, by decide, rfl, rfl⟩); (focus (intro wx hx; skip; exact x_move (by conv => lhs; whnf))); (focus (exact hS)))
    -- ready now: 8 convert 31 9 t139, 10 convert 31 9 t141
    refine AtH_take 8 rfl (by decide +kernel) (by exact ⟨_, _, rfl, by decide, rfl, rfl⟩) (fun wx hx => x_conv_bs rfl (hx.1.e (D := fun _ => True) fun _ _ => trivial)) hS ?_
    refine AtH_take 10 rfl (by decide +kernel) (by exact ⟨_, _, rfl, by decide, rfl, rfl⟩) (fun wx hx => x_conv_bs rfl (hx.2.e (D := fun _ => True) fun _ _ => trivial)) hS ?_
    refine AtH_take 11 rfl (by decide +kernel) (by exact ⟨_, _, rfl, by decide, rfl, rfl⟩) (fun wx hx => x_neq_str rfl rfl) hS ?_
    rw [show decide (blN (G i) ≠ blN (G i)) = false from decide_eq_false (by simp)]
    (apply AtH_take 12 rfl (by decide +kernel) (by exact rfl); (focus (intro wx hx; skip; exact x_pick_f rfl (by conv => lhs; whnf))); (focus (exact hS)))
    (apply AtH_take 13 rfl (by decide +kernel) (by exact rfl); (focus (intro wx hx; skip; exact x_move (by conv => lhs; whnf))); (focus (exact hS)))
    (apply AtH_take 14 rfl (by decide +kernel) (by exact ⟨_, _, rfl, by decide, rfl, rfl⟩); (focus (intro wx hx; skip; exact x_move (by conv => lhs; whnf))); (focus (exact hS)))
    (apply AtH_take 16 rfl (by decide +kernel) (by exact ⟨_, _, rfl, by decide, rfl, rfl⟩); (focus (intro wx hx; skip; exact x_move (by conv => lhs; whnf))); (focus (exact hS)))
    -- ready now: 15 convert 31 9 t146, 17 binOp rem 3 t148 250:i64 3
    refine AtH_take 15 rfl (by decide +kernel) (by exact ⟨_, _, rfl, by decide, rfl, rfl⟩) (fun wx hx => x_conv_bs rfl (hx.1.e (D := fun _ => True) fun _ _ => trivial)) hS ?_
    refine AtH_take 17 rfl (by decide +kernel) (by exact ⟨_, _, rfl, by decide, rfl, rfl⟩) (fun wx hx => x_remI rfl rfl (by omega) (by omega)) hS ?_
    (apply AtH_take 18 rfl (by decide +kernel) (by exact ⟨_, _, rfl, by decide, rfl, rfl⟩); (focus (intro wx hx; skip; exact x_add64 rfl rfl (by omega) (by omega))); (focus (exact hS)))
    -- ready now: 19 convert 3 5 t150
    rw [bl_oct]
    refine AtH_take 19 rfl (by decide +kernel) (by exact ⟨_, _, rfl, by decide, rfl, rfl⟩) (fun wx hx => x_conv_i8 rfl) hS ?_
    refine AtH_call 20 rfl (by decide +kernel) (by exact ⟨_, _, rfl, by decide, rfl, rfl⟩) x_call  (block_calls _ _) ?_
    rintro _ w14 ⟨bx, rfl, hox, hbx, k14⟩
    have hS14 : S0 w14 := ⟨hS.1.kpn k14, hS.2.kpn k14⟩
    refine ⟨_, rfl, hS14, ?_⟩
    clear hS
    have hS := hS14
    refine AtH_val 21 rfl (by decide +kernel) (by exact ⟨_, _, rfl, by decide, rfl, rfl⟩) (x_conv_bs rfl (hox.sl.e (D := fun _ => True) fun _ _ => trivial)) hS ?_
    refine AtH_val 22 rfl (by decide +kernel) (by exact ⟨_, _, rfl, by decide, rfl, rfl⟩) (x_neq_str rfl rfl) hS ?_
    rw [show decide (blN (G i) ≠ blockB (UInt8.ofNat (1 + G i % 250))) = false from decide_eq_false (by unfold blN; simp)]
    (apply AtH_take 23 rfl (by decide +kernel) (by exact rfl); (focus (intro wx hx; skip; exact x_pick_f rfl (by conv => lhs; whnf))); (focus (exact hS)))
    refine AtH_done (by decide +kernel) ?_
    (refine At_cond_f rfl ?_; refine At_skip ?_; refine At_inBlock ?_; refine At_region ?_; refine s_mv ?_; refine s_ad ?_; refine s_as ?_; refine AtR_nil ?_)
    exact again (i + 1) _ _ ⟨rfl, rfl, rfl, rfl, rfl, trivial⟩ ⟨hlt, (((K11.trans k12).trans k13).trans kd).trans k14⟩ (by omega)
  have hie : i = z.length := by omega
  clear again
  subst hie
  (refine At_seq ?_; refine At_seq ?_; refine At_region ?_; refine s_mv ?_; refine s_mv ?_; refine s_ln ?_; refine s_lss ?_; refine AtR_nil ?_; refine At_cond_f rfl ?_; refine At_exit rfl ?_; refine At_seq ?_; refine At_region ?_; refine s_mv ?_)
  refine s_val (x_load_all rfl B7c hr34) ?_
  refine s_call x_call (Sectors_calls g sp bo _ _ st r (d : Int) _ hW11.gr hW11.stt hr (by omega)) ?_
  rw [hse1]
  rintro _ w12 ⟨k12, ax, cx, rfl, _, _⟩
  refine ⟨_, rfl, ?_⟩
  have B8d := B8c.kp k12 fun h => h
  have B7d := B7c.kp k12 fun h => h
  have hW12 := hW11.kpn k12
  (refine s_mv ?_; refine s_ex ?_; refine s_ex ?_; refine s_as ?_; refine s_as ?_; refine AtR_nil ?_; refine At_seq ?_; refine At_region ?_; refine s_mv ?_)
  refine s_val (x_load_all rfl B8d hr234) ?_
  refine s_call x_call (Sectors_calls g sp bo _ _ st r2 (d2 : Int) _ hW12.gr hW12.stt hr2 (by omega)) ?_
  rw [hse2]
  rintro _ w13 ⟨k13, ay, cy, rfl, _, _⟩
  refine ⟨_, rfl, ?_⟩
  have B8e := B8d.kp k13 fun h => h
  have B7e := B7d.kp k13 fun h => h
  have hdeep1 := trC_deep hr (d : Int)
  have hdeep2 := trC_deep hr2 (d2 : Int)
  (refine s_mv ?_; refine s_ex ?_; refine s_ex ?_; refine s_as ?_; refine s_as ?_; refine AtR_nil ?_; refine At_seq ?_; refine At_region ?_; refine s_mv ?_; refine s_eql ?_; refine s_mv ?_; refine s_yes rfl rfl rfl rfl ?_; refine g_mv ?_; refine s_yes rfl rfl rfl rfl ?_; refine g_eql ?_; refine s_pt ?_; refine s_mv ?_; refine s_yes rfl rfl rfl rfl ?_; refine g_mv ?_; refine s_yes rfl rfl rfl rfl ?_; refine g_ln ?_; refine s_yes rfl rfl rfl rfl ?_; refine g_mv ?_; refine s_yes rfl rfl rfl rfl ?_; refine g_ln ?_)
  refine s_yes rfl rfl rfl rfl (g_val (x_eql rfl rfl) ?_)
  first
    | rw [show decide ((SS.length : Int) = (SS2.length : Int)) = true from decide_eq_true (by omega)]
    | rw [show decide (((((0 : Nat), SS).2.length : Nat) : Int) = ((((0 : Nat), SS2).2.length : Nat) : Int)) = true from decide_eq_true (by show (SS.length : Int) = (SS2.length : Int); omega)]
  (refine s_pt ?_; refine s_mv ?_; refine s_yes rfl rfl rfl rfl ?_; refine g_fa ?_)
  refine s_yes rfl rfl rfl rfl (g_val (x_load1 rfl B7e hdeep1) ?_)
  (refine s_yes rfl rfl rfl rfl ?_; refine g_fa ?_)
  refine s_yes rfl rfl rfl rfl (g_val (x_load1 rfl B8e hdeep2) ?_)
  refine s_yes rfl rfl rfl rfl (g_val (x_eql rfl rfl) ?_)
  rw [show decide ((d : Int) = (d2 : Int)) = true from decide_eq_true (by omega)]
  (refine s_pt ?_; refine s_as ?_; refine AtR_nil ?_)
  refine At_ret1 Tryd.func9 rfl (by conv => lhs; whnf) ?_
  exact ⟨rfl, Kp.below (((K10.trans K11).trans k12).trans k13)⟩
theorem order_in (W : World) (hC : ∃ fz, Blk W 1 243 fz (ints .u64 (ws kSha))) (a : Option Addr) (len cap : Nat) (z : List Int) (hz : Sl W .i64 a len cap z) (hw : ∀ x ∈ z, (Lit.int .i64 x).wf = true) (turn : Int) (ht : (Lit.int .i64 turn).wf = true) :
    Calls Tryd.prog 9 #[.slice a len cap, .int .i64 turn] W fun e w' => e = .returned (.bool true) ∧ RowKit.Below W.heap.size W w' :=
  order_row W hC a len cap z hz turn (by have := wf_bounds ht; simpa [show IntKind.i64.min = -9223372036854775808 from rfl, show IntKind.i64.max = 9223372036854775807 from rfl] using this)
end Go.Proofs.YtfngacepjcdlnaaDoor
