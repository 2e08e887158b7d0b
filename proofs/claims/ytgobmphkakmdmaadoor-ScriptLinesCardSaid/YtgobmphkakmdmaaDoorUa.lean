/- Scripts, plainly: words of texts, lines of words. Own work; nothing of a program is named here. -/
import Derived.Lib.ItoaNum
set_option linter.unusedVariables false
namespace Go.Sc
/-- A hexadecimal digit. -/
def hexD (n : UInt8) : UInt8 := if n < 10 then 48 + n else 87 + n
/-- An octet that stands for itself. -/
def own (c : UInt8) : Bool := decide (32 < c.toNat ∧ c.toNat < 127 ∧ c.toNat ≠ 37)
def enc (c : UInt8) : List UInt8 := if own c = true then [c] else [37, hexD (c >>> 4), hexD (c &&& 15)]
/-- The word of a text. -/
def wordB (s : List UInt8) : List UInt8 := if s = [] then [37] else s.flatMap enc
theorem hexD_inj_fin : ∀ a b : Fin 16, hexD (UInt8.ofNat a.val) = hexD (UInt8.ofNat b.val) → a = b := by decide +kernel
theorem nib_fin : ∀ a : Fin 256, UInt8.ofNat a.val >>> 4 = UInt8.ofNat (a.val / 16) ∧ UInt8.ofNat a.val &&& 15 = UInt8.ofNat (a.val % 16) := by decide +kernel
theorem hex_free_fin : ∀ a : Fin 256, hexD (UInt8.ofNat a.val >>> 4) ≠ 32 ∧ hexD (UInt8.ofNat a.val &&& 15) ≠ 32 := by decide +kernel
theorem oct_fin (c : UInt8) : ∃ a : Fin 256, c = UInt8.ofNat a.val := ⟨⟨c.toNat, c.toNat_lt⟩, by simp⟩
theorem hex_inj {a b : UInt8} (h1 : hexD (a >>> 4) = hexD (b >>> 4)) (h2 : hexD (a &&& 15) = hexD (b &&& 15)) : a = b := by
  obtain ⟨x, rfl⟩ := oct_fin a
  obtain ⟨y, rfl⟩ := oct_fin b
  rw [(nib_fin x).1, (nib_fin y).1] at h1
  rw [(nib_fin x).2, (nib_fin y).2] at h2
  have e1 := congrArg Fin.val (hexD_inj_fin ⟨x.val / 16, by omega⟩ ⟨y.val / 16, by omega⟩ h1)
  have e2 := congrArg Fin.val (hexD_inj_fin ⟨x.val % 16, by omega⟩ ⟨y.val % 16, by omega⟩ h2)
  simp only at e1 e2
  rw [show x = y from Fin.ext (by omega)]
theorem own_ne {c : UInt8} (h : own c = true) : c ≠ 37 ∧ c ≠ 32 := by
  have h := of_decide_eq_true h
  constructor
  · rintro rfl; exact h.2.2 rfl
  · rintro rfl; exact absurd h.1 (by decide)
/-- No octet of a word is a space. -/
theorem enc_free (c : UInt8) : (32 : UInt8) ∉ enc c := by
  unfold enc
  split
  · rename_i h
    intro hm
    exact (own_ne h).2 (List.mem_singleton.1 hm).symm
  · obtain ⟨x, rfl⟩ := oct_fin c
    have := hex_free_fin x
    intro hm
    simp only [List.mem_cons, List.not_mem_nil, or_false] at hm
    rcases hm with h | h | h
    · exact absurd h (by decide)
    · exact this.1 h.symm
    · exact this.2 h.symm
theorem word_free (s : List UInt8) : (32 : UInt8) ∉ wordB s := by
  unfold wordB
  split
  · decide
  · intro h
    obtain ⟨c, _, hc⟩ := List.mem_flatMap.1 h
    exact enc_free c hc
theorem enc_app {c d : UInt8} {r q : List UInt8} (h : enc c ++ r = enc d ++ q) : c = d ∧ r = q := by
  unfold enc at h
  split at h <;> split at h
  · simpa using h
  · rename_i h1 _
    exact absurd (List.cons.inj h).1 (own_ne h1).1
  · rename_i _ h1
    exact absurd (List.cons.inj h).1.symm (own_ne h1).1
  · simp only [List.cons_append, List.nil_append, List.cons.injEq, true_and] at h
    exact ⟨hex_inj h.1 h.2.1, h.2.2⟩
theorem flat_inj : ∀ {s t : List UInt8}, s.flatMap enc = t.flatMap enc → s = t
  | [], [], _ => rfl
  | [], d :: t, h => by
    rw [List.flatMap_nil, List.flatMap_cons] at h
    have := congrArg List.length h
    unfold enc at this
    split at this <;> simp at this
  | c :: s, [], h => by
    rw [List.flatMap_nil, List.flatMap_cons] at h
    have := congrArg List.length h
    unfold enc at this
    split at this <;> simp at this
  | c :: s, d :: t, h => by
    rw [List.flatMap_cons, List.flatMap_cons] at h
    obtain ⟨rfl, h2⟩ := enc_app h
    rw [flat_inj h2]
theorem flat_one {s : List UInt8} (h : s ≠ []) : s.flatMap enc ≠ [37] := by
  cases s with
  | nil => exact absurd rfl h
  | cons c s =>
    rw [List.flatMap_cons]
    intro e
    unfold enc at e
    split at e
    · rename_i h1
      exact (own_ne h1).1 (List.cons.inj e).1
    · have := congrArg List.length e
      simp at this
/-- Unlike texts have unlike words. -/
theorem word_inj {s t : List UInt8} (h : wordB s = wordB t) : s = t := by
  unfold wordB at h
  by_cases hs : s = [] <;> by_cases ht : t = []
  · rw [hs, ht]
  · rw [if_pos hs, if_neg ht] at h; exact absurd h.symm (flat_one ht)
  · rw [if_neg hs, if_pos ht] at h; exact absurd h (flat_one hs)
  · rw [if_neg hs, if_neg ht] at h; exact flat_inj h
/-- Words behind each other, an octet between them. -/
def line (p : UInt8) : List (List UInt8) → List UInt8
  | [] => []
  | [x] => x
  | x :: y :: r => x ++ p :: line p (y :: r)
theorem line_count {p : UInt8} : ∀ {x : List UInt8} {r : List (List UInt8)}, (∀ y ∈ x :: r, p ∉ y) → (line p (x :: r)).count p = r.length
  | x, [], h => by
    rw [line, List.length_nil]
    exact List.count_eq_zero.2 (h x (List.mem_cons_self ..))
  | x, y :: r, h => by
    rw [line, List.count_append, List.count_cons_self, line_count fun z hz => h z (List.mem_cons_of_mem _ hz), List.count_eq_zero.2 (h x (List.mem_cons_self ..)), List.length_cons]
    omega
theorem app_inj {p : UInt8} {x y r q : List UInt8} (hx : p ∉ x) (hy : p ∉ y) (h : x ++ p :: r = y ++ p :: q) : x = y ∧ r = q := by
  induction x generalizing y with
  | nil =>
    cases y with
    | nil => exact ⟨rfl, (List.cons.inj h).2⟩
    | cons b y => exact absurd (List.mem_cons.2 (.inl (List.cons.inj h).1)) hy
  | cons a x ih =>
    cases y with
    | nil => exact absurd (List.mem_cons.2 (.inl (List.cons.inj h).1.symm)) hx
    | cons b y =>
      obtain ⟨rfl, h2⟩ := List.cons.inj h
      obtain ⟨rfl, h3⟩ := ih (fun h => hx (List.mem_cons_of_mem _ h)) (fun h => hy (List.mem_cons_of_mem _ h)) h2
      exact ⟨rfl, h3⟩
/-- Unlike words make unlike lines. -/
theorem line_inj {p : UInt8} : ∀ {xs ys : List (List UInt8)}, xs ≠ [] → ys ≠ [] → (∀ x ∈ xs, p ∉ x) → (∀ y ∈ ys, p ∉ y) → line p xs = line p ys → xs = ys
  | [], _, h, _, _, _, _ => absurd rfl h
  | _, [], _, h, _, _, _ => absurd rfl h
  | [x], [y], _, _, _, _, h => by rw [show x = y from h]
  | [x], y :: z :: r, _, _, hx, hy, h => by
    have e1 := line_count (x := x) (r := []) hx
    have e2 := line_count (x := y) (r := z :: r) hy
    rw [h, e2] at e1
    cases e1
  | x :: z :: r, [y], _, _, hx, hy, h => by
    have e1 := line_count (x := y) (r := []) hy
    have e2 := line_count (x := x) (r := z :: r) hx
    rw [← h, e2] at e1
    cases e1
  | x :: a :: r, y :: b :: q, _, _, hx, hy, h => by
    obtain ⟨rfl, h2⟩ := app_inj (hx x (List.mem_cons_self ..)) (hy y (List.mem_cons_self ..)) h
    rw [line_inj (List.cons_ne_nil _ _) (List.cons_ne_nil _ _) (fun z hz => hx z (List.mem_cons_of_mem _ hz)) (fun z hz => hy z (List.mem_cons_of_mem _ hz)) h2]
theorem line_mem {p c : UInt8} : ∀ {xs : List (List UInt8)}, c ∈ line p xs → c = p ∨ ∃ x ∈ xs, c ∈ x
  | [], h => by cases h
  | [x], h => .inr ⟨x, List.mem_cons_self .., h⟩
  | x :: y :: r, h => by
    rcases List.mem_append.1 h with h | h
    · exact .inr ⟨x, List.mem_cons_self .., h⟩
    · rcases List.mem_cons.1 h with h | h
      · exact .inl h
      · rcases line_mem h with h | ⟨z, hz, hc⟩
        · exact .inl h
        · exact .inr ⟨z, List.mem_cons_of_mem _ hz, hc⟩
open Go.Lib in
theorem dec_small {u : Nat} (h : u < 10) : decDigits u = [UInt8.ofNat (48 + u)] := by rw [decDigits, dif_pos h]
open Go.Lib in
theorem dec_big {u : Nat} (h : ¬ u < 10) : decDigits u = decDigits (u / 10) ++ [UInt8.ofNat (48 + u % 10)] := by rw [decDigits, dif_neg h]
/-- What digits are of. -/
def num (l : List UInt8) : Nat := l.foldl (fun v c => v * 10 + (c.toNat - 48)) 0
theorem dig_val {d : Nat} (h : d < 10) : (UInt8.ofNat (48 + d)).toNat - 48 = d ∧ 48 ≤ (UInt8.ofNat (48 + d)).toNat ∧ (UInt8.ofNat (48 + d)).toNat ≤ 57 := by
  rw [UInt8.toNat_ofNat']
  omega
open Go.Lib in
theorem num_dec : ∀ u : Nat, num (decDigits u) = u := by
  intro u
  induction u using Nat.strongRecOn with
  | _ u ih =>
    by_cases h : u < 10
    · rw [dec_small h]
      show 0 * 10 + ((UInt8.ofNat (48 + u)).toNat - 48) = u
      rw [(dig_val h).1]; omega
    · rw [dec_big h]
      have e := ih (u / 10) (by omega)
      unfold num at e ⊢
      rw [List.foldl_append, e, List.foldl_cons, List.foldl_nil, (dig_val (Nat.mod_lt u (by omega))).1]
      omega
open Go.Lib in
theorem dec_mem : ∀ u : Nat, ∀ c ∈ decDigits u, 48 ≤ c.toNat ∧ c.toNat ≤ 57 := by
  intro u
  induction u using Nat.strongRecOn with
  | _ u ih =>
    intro c hc
    by_cases h : u < 10
    · rw [dec_small h] at hc
      rw [List.mem_singleton.1 hc]; exact (dig_val h).2
    · rw [dec_big h] at hc
      rcases List.mem_append.1 hc with hc | hc
      · exact ih (u / 10) (by omega) c hc
      · rw [List.mem_singleton.1 hc]; exact (dig_val (Nat.mod_lt u (by omega))).2
open Go.Lib in
theorem dec_ne (u : Nat) : decDigits u ≠ [] := by
  by_cases h : u < 10
  · rw [dec_small h]; simp
  · rw [dec_big h]; simp
open Go.Lib in
/-- Unlike numbers have unlike words. -/
theorem itoa_inj {a b : Int} (h : itoa a = itoa b) : a = b := by
  have neg : ∀ {u : Nat} {l : List UInt8}, decDigits u ≠ 45 :: l := fun {u l} e => by
    have := dec_mem u 45 (by rw [e]; exact List.mem_cons_self ..)
    exact absurd this.1 (by decide)
  unfold itoa at h
  split at h <;> split at h
  · have e := congrArg num (List.cons.inj h).2
    rw [num_dec, num_dec] at e; omega
  · exact absurd h.symm neg
  · exact absurd h neg
  · have e := congrArg num h
    rw [num_dec, num_dec] at e; omega
open Go.Lib in
/-- A number's word has neither a space nor a comma. -/
theorem itoa_free (n : Int) : (32 : UInt8) ∉ itoa n ∧ (44 : UInt8) ∉ itoa n ∧ itoa n ≠ [] ∧ itoa n ≠ [45] := by
  have hd : ∀ u c, c ∈ decDigits u → c ≠ 32 ∧ c ≠ 44 := fun u c hc => by
    have h := (dec_mem u c hc).1
    constructor
    · rintro rfl; exact absurd h (by decide)
    · rintro rfl; exact absurd h (by decide)
  unfold itoa
  split
  · refine ⟨fun h => ?_, fun h => ?_, List.cons_ne_nil _ _, fun h => dec_ne _ (List.cons.inj h).2⟩
    · rcases List.mem_cons.1 h with h | h
      · exact absurd h (by decide)
      · exact (hd _ _ h).1 rfl
    · rcases List.mem_cons.1 h with h | h
      · exact absurd h (by decide)
      · exact (hd _ _ h).2 rfl
  · refine ⟨fun h => (hd _ _ h).1 rfl, fun h => (hd _ _ h).2 rfl, dec_ne _, fun h => ?_⟩
    have := dec_mem _ 45 (by rw [h]; exact List.mem_cons_self ..)
    exact absurd this.1 (by decide)
/-- The word of numbers. -/
def listB (l : List Int) : List UInt8 := if l = [] then [45] else line 44 (l.map Go.Lib.itoa)
theorem list_free (l : List Int) : (32 : UInt8) ∉ listB l := by
  unfold listB
  split
  · decide
  · intro h
    rcases line_mem h with h | ⟨x, hx, hc⟩
    · exact absurd h (by decide)
    · obtain ⟨n, _, rfl⟩ := List.mem_map.1 hx
      exact (itoa_free n).1 hc
theorem list_one {l : List Int} (h : l ≠ []) : line 44 (l.map Go.Lib.itoa) ≠ [45] := by
  cases l with
  | nil => exact absurd rfl h
  | cons a l =>
    cases l with
    | nil => exact (itoa_free a).2.2.2
    | cons b l =>
      intro e
      have hc := line_count (p := 44) (x := Go.Lib.itoa a) (r := (b :: l).map Go.Lib.itoa) (fun y hy => by
        obtain ⟨n, _, rfl⟩ := List.mem_map.1 (by rw [← List.map_cons] at hy; exact hy)
        exact (itoa_free n).2.1)
      rw [← List.map_cons, e] at hc
      simp at hc
theorem list_inj {a b : List Int} (h : listB a = listB b) : a = b := by
  unfold listB at h
  by_cases ha : a = [] <;> by_cases hb : b = []
  · rw [ha, hb]
  · rw [if_pos ha, if_neg hb] at h; exact absurd h.symm (list_one hb)
  · rw [if_neg ha, if_pos hb] at h; exact absurd h (list_one ha)
  · rw [if_neg ha, if_neg hb] at h
    have hm : ∀ l : List Int, ∀ x ∈ l.map Go.Lib.itoa, (44 : UInt8) ∉ x := fun l x hx => by
      obtain ⟨n, _, rfl⟩ := List.mem_map.1 hx
      exact (itoa_free n).2.1
    have e := line_inj (by simpa using ha) (by simpa using hb) (hm a) (hm b) h
    have key : ∀ a b : List Int, a.map Go.Lib.itoa = b.map Go.Lib.itoa → a = b := by
      intro a
      induction a with
      | nil => intro b h; cases b with
        | nil => rfl
        | cons _ _ => cases h
      | cons x a ih => intro b h; cases b with
        | nil => cases h
        | cons y b =>
          simp only [List.map_cons, List.cons.injEq] at h
          rw [itoa_inj h.1, ih b h.2]
    exact key a b e
/-- A deed. -/
structure Deed where
  kind : Nat
  path : List UInt8
  to_ : List UInt8
  b : List UInt8
  n : Int
  m : Int
  k : Int
  keep : List Int
/-- What a kind may have. -/
inductive Fld | p | a | b | l | n | m | k
  deriving DecidableEq
def part (d : Deed) : Fld → List UInt8
  | .p => wordB d.path
  | .a => wordB d.to_
  | .b => wordB d.b
  | .l => listB d.keep
  | .n => Go.Lib.itoa d.n
  | .m => Go.Lib.itoa d.m
  | .k => Go.Lib.itoa d.k
/-- Two deeds have the same there. -/
def same (x y : Deed) : Fld → Prop
  | .p => x.path = y.path
  | .a => x.to_ = y.to_
  | .b => x.b = y.b
  | .l => x.keep = y.keep
  | .n => x.n = y.n
  | .m => x.m = y.m
  | .k => x.k = y.k
def namesL : List (List UInt8) := [[111, 112, 101, 110], [99, 108, 111, 115, 101], [114, 101, 97, 100], [119, 114, 105, 116, 101], [115, 101, 101, 107], [99, 117, 116], [109, 107, 100, 105, 114], [115, 121, 109, 108, 105, 110, 107], [114, 101, 108, 105, 110, 107], [108, 105, 110, 107], [117, 110, 108, 105, 110, 107], [114, 109, 100, 105, 114], [114, 101, 110, 97, 109, 101], [108, 105, 115, 116], [115, 116, 97, 116], [99, 104, 109, 111, 100], [117, 116, 105, 109, 101, 115], [112, 111, 108, 105, 99, 121], [116, 105, 99, 107], [97, 100, 100], [114, 101, 109, 111, 118, 101], [115, 121, 110, 99], [99, 114, 97, 115, 104], [108, 105, 109, 105, 116], [116, 97, 109, 112, 101, 114], [119, 101, 97, 114]]
def fldsL : List (List Fld) := [[.p, .k, .m], [.k], [.k, .m], [.k, .b], [.k, .m, .n], [.p, .m], [.p, .m], [.p, .a], [.p], [.p, .a], [.p], [.p], [.p, .a], [.p], [.p, .k], [.p, .m], [.p, .m], [.p, .m, .k], [.m], [.k], [.k], [], [.l], [.m], [.m, .k], [.m]]
def nameB (kind : Nat) : List UInt8 := namesL.getD kind []
def flds (kind : Nat) : List Fld := fldsL.getD kind []
theorem part_free (d : Deed) (f : Fld) : (32 : UInt8) ∉ part d f := by
  cases f
  · exact word_free _
  · exact word_free _
  · exact word_free _
  · exact list_free _
  · exact (itoa_free _).1
  · exact (itoa_free _).1
  · exact (itoa_free _).1
theorem part_inj {x y : Deed} {f : Fld} (h : part x f = part y f) : same x y f := by
  cases f
  · exact word_inj h
  · exact word_inj h
  · exact word_inj h
  · exact list_inj h
  · exact itoa_inj h
  · exact itoa_inj h
  · exact itoa_inj h
theorem part_same {x y : Deed} {f : Fld} (h : same x y f) : part x f = part y f := by
  cases f <;> simp only [same] at h <;> simp only [part, h]
theorem name_fin : ∀ a : Fin 26, (32 : UInt8) ∉ nameB a.val := by decide +kernel
theorem name_inj_fin : ∀ a b : Fin 26, nameB a.val = nameB b.val → a = b := by decide +kernel
/-- A deed's line. -/
def lineD (d : Deed) : List UInt8 := line 32 (nameB d.kind :: (flds d.kind).map (part d))
theorem words_free (d : Deed) (hd : d.kind < 26) : ∀ y ∈ nameB d.kind :: (flds d.kind).map (part d), (32 : UInt8) ∉ y := fun y hy => by
  rcases List.mem_cons.1 hy with rfl | hy
  · exact name_fin ⟨d.kind, hd⟩
  · obtain ⟨f, _, rfl⟩ := List.mem_map.1 hy
    exact part_free d f
/-- It has as many spaces as its kind has words. -/
theorem lineD_count (d : Deed) (hd : d.kind < 26) : (lineD d).count 32 = (flds d.kind).length := by
  rw [lineD, line_count (words_free d hd), List.length_map]
/-- Like lines are of deeds of one kind that have the same where it has something; and the other way round. -/
theorem lineD_iff (x y : Deed) (hx : x.kind < 26) (hy : y.kind < 26) : lineD x = lineD y ↔ x.kind = y.kind ∧ ∀ f ∈ flds x.kind, same x y f := by
  constructor
  · intro h
    have e := line_inj (List.cons_ne_nil _ _) (List.cons_ne_nil _ _) (words_free x hx) (words_free y hy) h
    obtain ⟨e1, e2⟩ := List.cons.inj e
    have hk : x.kind = y.kind := congrArg Fin.val (name_inj_fin ⟨x.kind, hx⟩ ⟨y.kind, hy⟩ e1)
    refine ⟨hk, fun f hf => ?_⟩
    rw [← hk] at e2
    have key : ∀ l : List Fld, l.map (part x) = l.map (part y) → ∀ f ∈ l, part x f = part y f := fun l h f hf => List.map_inj_left.1 h f hf
    exact part_inj (key _ e2 f hf)
  · rintro ⟨hk, h⟩
    unfold lineD
    rw [← hk, List.map_congr_left fun f hf => part_same (h f hf)]
/-- Deeds' script, or the first error; e tells of each deed whether it has one. -/
def goD {α : Type} (e : α → Nat) (l : α → List UInt8) : List α → List UInt8 × Nat
  | [] => ([], 0)
  | d :: ds => if e d = 0 then (if (goD e l ds).2 = 0 then (l d ++ 10 :: (goD e l ds).1, 0) else ([], (goD e l ds).2)) else ([], e d)
theorem goD_ok {α : Type} {e : α → Nat} {l : α → List UInt8} : ∀ {ds : List α}, (goD e l ds).2 = 0 ↔ ∀ d ∈ ds, e d = 0
  | [] => by simp [goD]
  | d :: ds => by
    have ih := goD_ok (e := e) (l := l) (ds := ds)
    rw [goD]
    by_cases h : e d = 0
    · rw [if_pos h]
      by_cases h2 : (goD e l ds).2 = 0
      · rw [if_pos h2]; simpa [h] using ih.1 h2
      · rw [if_neg h2]
        constructor
        · intro h3; exact absurd h3 h2
        · intro h3; exact absurd (ih.2 fun x hx => h3 x (List.mem_cons_of_mem _ hx)) h2
    · rw [if_neg h]
      constructor
      · intro h3; exact absurd h3 h
      · intro h3; exact h3 d (List.mem_cons_self ..)
theorem goD_text {α : Type} {e : α → Nat} {l : α → List UInt8} : ∀ {ds : List α}, (goD e l ds).2 = 0 → (goD e l ds).1 = ds.flatMap fun d => l d ++ [10]
  | [], _ => rfl
  | d :: ds, h => by
    have h0 := goD_ok.1 h
    have h1 : (goD e l ds).2 = 0 := goD_ok.2 fun x hx => h0 x (List.mem_cons_of_mem _ hx)
    rw [goD, if_pos (h0 d (List.mem_cons_self ..)), if_pos h1, goD_text h1, List.flatMap_cons]
    simp
/-- A script of two is the one behind the other: all that ScriptWhole says, plainly. -/
theorem goD_app {α : Type} (e : α → Nat) (l : α → List UInt8) (a b : List α) :
    ((goD e l a).2 = 0 ∧ (goD e l b).2 = 0 → (goD e l (a ++ b)).2 = 0 ∧ (goD e l (a ++ b)).1 = (goD e l a).1 ++ (goD e l b).1) ∧ (¬ ((goD e l a).2 = 0 ∧ (goD e l b).2 = 0) → (goD e l (a ++ b)).2 ≠ 0) := by
  have hk : (goD e l (a ++ b)).2 = 0 ↔ (goD e l a).2 = 0 ∧ (goD e l b).2 = 0 := by
    rw [goD_ok, goD_ok, goD_ok]
    constructor
    · exact fun h => ⟨fun d hd => h d (List.mem_append_left _ hd), fun d hd => h d (List.mem_append_right _ hd)⟩
    · rintro ⟨h1, h2⟩ d hd
      rcases List.mem_append.1 hd with hd | hd
      · exact h1 d hd
      · exact h2 d hd
  refine ⟨fun h => ⟨hk.2 h, ?_⟩, fun h h2 => h (hk.1 h2)⟩
  rw [goD_text (hk.2 h), goD_text h.1, goD_text h.2, List.flatMap_append]
end Go.Sc
