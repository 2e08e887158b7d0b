/- Many words of 64 bits in one number, a word to each 128 bits. Own work; nothing of a program is named here. | SHA-512 of many texts at once, in numbers. | The identifiers of many keys at once: what is worked out. | The identifiers of keys of one octet: no two are the same. | The identifiers of keys of one octet: worked out in the kernel. -/
import Derived.Test.YtfngacepjcdlnaaDoorMFa
set_option linter.unusedVariables false
namespace Go.Vec
/-- Numbers laid into one. -/
def pk : Nat → (Nat → Nat) → Nat
  | 0, _ => 0
  | n + 1, f => pk n f + 2 ^ (128 * n) * f n
theorem pk_lt {f : Nat → Nat} (hf : ∀ i, f i < 2 ^ 128) : ∀ n, pk n f < 2 ^ (128 * n)
  | 0 => by simp [pk]
  | n + 1 => by
    have h1 := pk_lt hf n
    have h2 : 2 ^ (128 * n) * (f n + 1) ≤ 2 ^ (128 * n) * 2 ^ 128 := Nat.mul_le_mul_left _ (hf n)
    rw [Nat.mul_add, Nat.mul_one] at h2
    rw [pk, show 128 * (n + 1) = 128 * n + 128 by omega, Nat.pow_add]
    omega
theorem pk_testBit {f : Nat → Nat} (hf : ∀ i, f i < 2 ^ 128) : ∀ (n j : Nat), (pk n f).testBit j = (decide (j < 128 * n) && (f (j / 128)).testBit (j % 128))
  | 0, j => by simp [pk]
  | n + 1, j => by
    rw [pk, Nat.add_comm, Nat.testBit_two_pow_mul_add _ (pk_lt hf n)]
    by_cases h : j < 128 * n
    · rw [if_pos h, pk_testBit hf n j, decide_eq_true h, decide_eq_true (by omega)]
    · rw [if_neg h]
      by_cases h2 : j < 128 * (n + 1)
      · rw [decide_eq_true h2, show j / 128 = n by omega, show j % 128 = j - 128 * n by omega, Bool.true_and]
      · rw [decide_eq_false h2, Bool.false_and]
        exact Nat.testBit_lt_two_pow (Nat.lt_of_lt_of_le (hf n) (Nat.pow_le_pow_right (by omega) (by omega)))
theorem pk_bit {f : Nat → Nat} (hf : ∀ i, f i < 2 ^ 128) {n i r : Nat} (hi : i < n) (hr : r < 128) : (pk n f).testBit (128 * i + r) = (f i).testBit r := by
  rw [pk_testBit hf, decide_eq_true (by omega), show (128 * i + r) / 128 = i by omega, show (128 * i + r) % 128 = r by omega, Bool.true_and]
theorem pk_add (f g : Nat → Nat) : ∀ n, pk n f + pk n g = pk n (fun i => f i + g i)
  | 0 => rfl
  | n + 1 => by rw [pk, pk, pk, ← pk_add f g n, Nat.mul_add]; omega
theorem pk_mul (f : Nat → Nat) (c : Nat) : ∀ n, pk n f * c = pk n (fun i => f i * c)
  | 0 => by simp [pk]
  | n + 1 => by rw [pk, pk, ← pk_mul f c n, Nat.add_mul, Nat.mul_assoc]
theorem pk_congr {f g : Nat → Nat} : ∀ {n : Nat} (_ : ∀ i, i < n → f i = g i), pk n f = pk n g
  | 0, _ => rfl
  | n + 1, h => by rw [pk, pk, pk_congr (fun i hi => h i (by omega)), h n (by omega)]
/-- The words that are laid. -/
def Is (n P : Nat) (f : Nat → BitVec 64) : Prop := P = pk n fun i => (f i).toNat
theorem wlt (f : Nat → BitVec 64) (i : Nat) : (fun i => (f i).toNat) i < 2 ^ 128 := Nat.lt_of_lt_of_le (f i).isLt (Nat.pow_le_pow_right (by omega) (by omega))
/-- The low halves alone are told. -/
def Lo (n P : Nat) (f : Nat → BitVec 64) : Prop := ∀ i r, i < n → r < 64 → P.testBit (128 * i + r) = (f i).getLsbD r
theorem Is.lo {n P : Nat} {f : Nat → BitVec 64} (h : Is n P f) : Lo n P f := fun i r hi hr => by
  subst h
  rw [pk_bit (wlt f) hi (by omega)]
  rfl
theorem Lo.xor {n P Q : Nat} {f g : Nat → BitVec 64} (h : Lo n P f) (k : Lo n Q g) : Lo n (Nat.xor P Q) (fun i => f i ^^^ g i) := fun i r hi hr => by
  rw [show Nat.xor P Q = P ^^^ Q from rfl, Nat.testBit_xor, h i r hi hr, k i r hi hr, BitVec.getLsbD_xor]
theorem Lo.and {n P Q : Nat} {f g : Nat → BitVec 64} (h : Lo n P f) (k : Lo n Q g) : Lo n (Nat.land P Q) (fun i => f i &&& g i) := fun i r hi hr => by
  rw [show Nat.land P Q = P &&& Q from rfl, Nat.testBit_and, h i r hi hr, k i r hi hr, BitVec.getLsbD_and]
theorem Lo.or {n P Q : Nat} {f g : Nat → BitVec 64} (h : Lo n P f) (k : Lo n Q g) : Lo n (Nat.lor P Q) (fun i => f i ||| g i) := fun i r hi hr => by
  rw [show Nat.lor P Q = P ||| Q from rfl, Nat.testBit_or, h i r hi hr, k i r hi hr, BitVec.getLsbD_or]
/-- All ones in the low halves. -/
def mask (n : Nat) : Nat := pk n fun _ => 18446744073709551615
theorem Lo.mask {n P : Nat} {f : Nat → BitVec 64} (h : Lo n P f) : Is n (Nat.land P (mask n)) f := by
  refine Nat.eq_of_testBit_eq fun j => ?_
  rw [show Nat.land P (Vec.mask n) = P &&& Vec.mask n from rfl, Nat.testBit_and, Vec.mask, pk_testBit (fun _ => by decide), pk_testBit (wlt f)]
  by_cases hj : j < 128 * n
  · rw [decide_eq_true hj, Bool.true_and, Bool.true_and, show (18446744073709551615 : Nat) = 2 ^ 64 - 1 from rfl, Nat.testBit_two_pow_sub_one]
    by_cases hr : j % 128 < 64
    · have := h (j / 128) (j % 128) (by omega) hr
      rw [show 128 * (j / 128) + j % 128 = j by omega] at this
      rw [this, decide_eq_true hr, Bool.and_true]
      rfl
    · rw [decide_eq_false hr, Bool.and_false]
      exact (Nat.testBit_lt_two_pow (Nat.lt_of_lt_of_le (f (j / 128)).isLt (Nat.pow_le_pow_right (by omega) (by omega)))).symm
  · rw [decide_eq_false hj]; simp
theorem Lo.shr {n P : Nat} {f : Nat → BitVec 64} (h : Is n P f) (c : Nat) (hc : c ≤ 64) : Lo n (Nat.shiftRight P c) (fun i => f i >>> c) := fun i r hi hr => by
  subst h
  rw [show Nat.shiftRight _ c = _ >>> c from rfl, Nat.testBit_shiftRight, show c + (128 * i + r) = 128 * i + (c + r) by omega, pk_bit (wlt f) hi (by omega), BitVec.getLsbD_ushiftRight]
  rfl
theorem Lo.rot {n P : Nat} {f : Nat → BitVec 64} (h : Is n P f) (c : Nat) (h0 : 0 < c) (hc : c < 64) : Lo n (Nat.shiftRight (Nat.mul P 18446744073709551617) c) (fun i => f i >>> c ||| f i <<< (64 - c)) := fun i r hi hr => by
  subst h
  have hm : Nat.mul (pk n fun i => (f i).toNat) 18446744073709551617 = pk n fun i => 2 ^ 64 * (f i).toNat + (f i).toNat := by
    show (pk n fun i => (f i).toNat) * 18446744073709551617 = _
    rw [pk_mul]
    exact pk_congr fun i _ => by omega
  have hb : ∀ i, (fun i => 2 ^ 64 * (f i).toNat + (f i).toNat) i < 2 ^ 128 := fun i => by
    have := (f i).isLt
    simp only
    omega
  rw [hm, show Nat.shiftRight _ c = _ >>> c from rfl, Nat.testBit_shiftRight, show c + (128 * i + r) = 128 * i + (c + r) by omega, pk_bit hb hi (by omega), Nat.testBit_two_pow_mul_add _ (f i).isLt, BitVec.getLsbD_or, BitVec.getLsbD_ushiftRight, BitVec.getLsbD_shiftLeft]
  by_cases hcr : c + r < 64
  · rw [if_pos hcr, decide_eq_true hr, decide_eq_true (show r < 64 - c by omega)]
    simp [BitVec.getLsbD]
  · rw [if_neg hcr, decide_eq_true hr, decide_eq_false (show ¬ r < 64 - c by omega), BitVec.getLsbD_of_ge _ _ (show 64 ≤ c + r by omega), show c + r - 64 = r - (64 - c) by omega]
    simp [BitVec.getLsbD]
theorem Is.xor {n P Q : Nat} {f g : Nat → BitVec 64} (h : Is n P f) (k : Is n Q g) : Is n (Nat.xor P Q) (fun i => f i ^^^ g i) := by
  subst h; subst k
  refine Nat.eq_of_testBit_eq fun j => ?_
  rw [show Nat.xor _ _ = _ ^^^ _ from rfl, Nat.testBit_xor, pk_testBit (wlt f), pk_testBit (wlt g), pk_testBit (wlt fun i => f i ^^^ g i), BitVec.toNat_xor, Nat.testBit_xor]
  cases decide (j < 128 * n) <;> simp
theorem Is.and {n P Q : Nat} {f g : Nat → BitVec 64} (h : Is n P f) (k : Is n Q g) : Is n (Nat.land P Q) (fun i => f i &&& g i) := by
  subst h; subst k
  refine Nat.eq_of_testBit_eq fun j => ?_
  rw [show Nat.land _ _ = _ &&& _ from rfl, Nat.testBit_and, pk_testBit (wlt f), pk_testBit (wlt g), pk_testBit (wlt fun i => f i &&& g i), BitVec.toNat_and, Nat.testBit_and]
  cases decide (j < 128 * n) <;> simp
theorem Is.or {n P Q : Nat} {f g : Nat → BitVec 64} (h : Is n P f) (k : Is n Q g) : Is n (Nat.lor P Q) (fun i => f i ||| g i) := by
  subst h; subst k
  refine Nat.eq_of_testBit_eq fun j => ?_
  rw [show Nat.lor _ _ = _ ||| _ from rfl, Nat.testBit_or, pk_testBit (wlt f), pk_testBit (wlt g), pk_testBit (wlt fun i => f i ||| g i), BitVec.toNat_or, Nat.testBit_or]
  cases decide (j < 128 * n) <;> simp
/-- Sums. -/
theorem Lo.sum {n : Nat} {g : Nat → Nat} (hg : ∀ i, g i < 2 ^ 128) : Lo n (pk n g) (fun i => BitVec.ofNat 64 (g i)) := fun i r hi hr => by
  rw [pk_bit hg hi (by omega), BitVec.getLsbD_ofNat, decide_eq_true hr, Bool.true_and]
/-- One word in all places. -/
def ones (n : Nat) : Nat := pk n fun _ => 1
theorem Is.const (n : Nat) (c : BitVec 64) : Is n (Nat.mul (ones n) c.toNat) (fun _ => c) := by
  show pk n (fun _ => 1) * c.toNat = _
  rw [pk_mul]
  exact pk_congr fun i _ => Nat.one_mul _
theorem mask_ones (n : Nat) : mask n = Nat.mul (ones n) 18446744073709551615 := by
  show _ = pk n (fun _ => 1) * 18446744073709551615
  rw [pk_mul]
  exact pk_congr fun i _ => rfl
/-- A sum of words, cut to words. -/
theorem Is.cut {n P : Nat} {g : Nat → Nat} {f : Nat → BitVec 64} (h : P = pk n g) (hg : ∀ i, g i < 2 ^ 128) (hf : ∀ i, BitVec.ofNat 64 (g i) = f i) : Is n (Nat.land P (mask n)) f := by
  subst h
  have := (Lo.sum (n := n) hg).mask
  rwa [show (fun i => BitVec.ofNat 64 (g i)) = f from funext hf] at this
theorem Is.add {n P Q : Nat} {f g : Nat → BitVec 64} (h : Is n P f) (k : Is n Q g) : Is n (Nat.land (Nat.add P Q) (mask n)) (fun i => f i + g i) := by
  subst h; subst k
  refine Is.cut (pk_add _ _ n) (fun i => ?_) fun i => ?_
  · have := (f i).isLt; have := (g i).isLt; omega
  · exact BitVec.eq_of_toNat_eq (by rw [BitVec.toNat_ofNat, BitVec.toNat_add])
end Go.Vec

namespace Go.Proofs.YtfngacepjcdlnaaDoor
open Go Go.Kx Go.Vec
namespace Fast
noncomputable section
def grP (M P a b c : Nat) : Nat := force (Nat.mul P 18446744073709551617) fun D => Nat.land (Nat.xor (Nat.xor (Nat.shiftRight D a) (Nat.shiftRight D b)) (Nat.shiftRight D c)) M
def smP (M P a b c : Nat) : Nat := force (Nat.mul P 18446744073709551617) fun D => Nat.land (Nat.xor (Nat.xor (Nat.shiftRight D a) (Nat.shiftRight D b)) (Nat.shiftRight P c)) M
def oneP (M O e f g h k w : Nat) : Nat := Nat.land (Nat.add (Nat.add (Nat.add (Nat.add h (grP M e 14 18 41)) (Nat.xor g (Nat.land e (Nat.xor f g)))) (Nat.mul O k)) w) M
def twoP (M a b c one : Nat) : Nat := Nat.land (Nat.add one (Nat.add (grP M a 28 34 39) (Nat.lor (Nat.land a b) (Nat.land (Nat.lor a b) c)))) M
def addP (M a b : Nat) : Nat := Nat.land (Nat.add a b) M
def nextP (M w0 w1 w9 w14 : Nat) : Nat := Nat.land (Nat.add (Nat.add (Nat.add (smP M w14 19 61 6) w9) (smP M w1 1 8 7)) w0) M
theorem gr_P {n P : Nat} {f : Nat → BitVec 64} (h : Is n P f) (a b c : Nat) (h1 : 0 < a ∧ a < 64) (h2 : 0 < b ∧ b < 64) (h3 : 0 < c ∧ c < 64) : Is n (grP (Vec.mask n) P a b c) (fun i => great (f i) a b c) := by
  rw [grP, force_eq]
  exact (((Lo.rot h a h1.1 h1.2).xor (Lo.rot h b h2.1 h2.2)).xor (Lo.rot h c h3.1 h3.2)).mask
theorem sm_P {n P : Nat} {f : Nat → BitVec 64} (h : Is n P f) (a b c : Nat) (h1 : 0 < a ∧ a < 64) (h2 : 0 < b ∧ b < 64) (h3 : c ≤ 64) : Is n (smP (Vec.mask n) P a b c) (fun i => small (f i) a b c) := by
  rw [smP, force_eq]
  exact (((Lo.rot h a h1.1 h1.2).xor (Lo.rot h b h2.1 h2.2)).xor (Lo.shr h c h3)).mask
theorem one_P {n E F G H K W : Nat} {e f g h w : Nat → BitVec 64} {k : BitVec 64} (he : Is n E e) (hf : Is n F f) (hg : Is n G g) (hh : Is n H h) (hk : K = k.toNat) (hw : Is n W w) :
    Is n (oneP (Vec.mask n) (ones n) E F G H K W) (fun i => h i + great (e i) 14 18 41 + (g i ^^^ (e i &&& (f i ^^^ g i))) + k + w i) := by
  have g1 := gr_P he 14 18 41 (by decide) (by decide) (by decide)
  have c1 := hg.xor (he.and (hf.xor hg))
  have kk := Is.const n k
  unfold oneP
  rw [hk]
  generalize grP (Vec.mask n) E 14 18 41 = Q1 at g1 ⊢
  generalize G.xor (E.land (F.xor G)) = Q2 at c1 ⊢
  generalize (ones n).mul k.toNat = Q3 at kk ⊢
  subst hh; subst g1; subst c1; subst kk; subst hw
  refine Is.cut (g := fun i => (h i).toNat + (great (e i) 14 18 41).toNat + (g i ^^^ (e i &&& (f i ^^^ g i))).toNat + k.toNat + (w i).toNat) ?_ (fun i => ?_) fun i => ?_
  · show pk n _ + pk n _ + pk n _ + pk n _ + pk n _ = pk n _
    rw [pk_add, pk_add, pk_add, pk_add]
  · have := (h i).isLt; have := (great (e i) 14 18 41).isLt; have := (g i ^^^ (e i &&& (f i ^^^ g i))).isLt; have := k.isLt; have := (w i).isLt
    omega
  · generalize great (e i) 14 18 41 = x1
    generalize g i ^^^ (e i &&& (f i ^^^ g i)) = x2
    apply BitVec.eq_of_toNat_eq
    simp only [BitVec.toNat_ofNat, BitVec.toNat_add, Nat.mod_add_mod]
theorem two_P {n A B C O : Nat} {a b c o : Nat → BitVec 64} (ha : Is n A a) (hb : Is n B b) (hc : Is n C c) (ho : Is n O o) :
    Is n (twoP (Vec.mask n) A B C O) (fun i => o i + (great (a i) 28 34 39 + (a i &&& b i ||| ((a i ||| b i) &&& c i)))) := by
  have g1 := gr_P ha 28 34 39 (by decide) (by decide) (by decide)
  have c1 := (ha.and hb).or ((ha.or hb).and hc)
  unfold twoP
  generalize grP (Vec.mask n) A 28 34 39 = Q1 at g1 ⊢
  generalize (A.land B).lor ((A.lor B).land C) = Q2 at c1 ⊢
  subst ho; subst g1; subst c1
  refine Is.cut (g := fun i => (o i).toNat + ((great (a i) 28 34 39).toNat + (a i &&& b i ||| ((a i ||| b i) &&& c i)).toNat)) ?_ (fun i => ?_) fun i => ?_
  · show pk n _ + (pk n _ + pk n _) = pk n _
    rw [pk_add, pk_add]
  · have := (o i).isLt; have := (great (a i) 28 34 39).isLt; have := (a i &&& b i ||| ((a i ||| b i) &&& c i)).isLt
    omega
  · generalize great (a i) 28 34 39 = x1
    generalize (a i &&& b i ||| ((a i ||| b i) &&& c i)) = x2
    apply BitVec.eq_of_toNat_eq
    simp only [BitVec.toNat_ofNat, BitVec.toNat_add, Nat.add_mod_mod]
theorem next_P {n A B C D : Nat} {w0 w1 w9 w14 : Nat → BitVec 64} (h0 : Is n A w0) (h1 : Is n B w1) (h9 : Is n C w9) (h14 : Is n D w14) :
    Is n (nextP (Vec.mask n) A B C D) (fun i => small (w14 i) 19 61 6 + w9 i + small (w1 i) 1 8 7 + w0 i) := by
  have g1 := sm_P h14 19 61 6 (by decide) (by decide) (by decide)
  have g2 := sm_P h1 1 8 7 (by decide) (by decide) (by decide)
  unfold nextP
  generalize smP (Vec.mask n) D 19 61 6 = Q1 at g1 ⊢
  generalize smP (Vec.mask n) B 1 8 7 = Q2 at g2 ⊢
  subst h0; subst g1; subst g2; subst h9
  refine Is.cut (g := fun i => (small (w14 i) 19 61 6).toNat + (w9 i).toNat + (small (w1 i) 1 8 7).toNat + (w0 i).toNat) ?_ (fun i => ?_) fun i => ?_
  · show pk n _ + pk n _ + pk n _ + pk n _ = pk n _
    rw [pk_add, pk_add, pk_add]
  · have := (small (w14 i) 19 61 6).isLt; have := (small (w1 i) 1 8 7).isLt; have := (w9 i).isLt; have := (w0 i).isLt
    omega
  · generalize small (w14 i) 19 61 6 = x1
    generalize small (w1 i) 1 8 7 = x2
    apply BitVec.eq_of_toNat_eq
    simp only [BitVec.toNat_ofNat, BitVec.toNat_add, Nat.mod_add_mod]
def roundsP (M O : Nat) (ks : List Nat) : (a b c d e f g h : Nat) → (W : List Nat) → List Nat :=
  List.rec (motive := fun _ => (a b c d e f g h : Nat) → (W : List Nat) → List Nat)
    (fun a b c d e f g h _ => [a, b, c, d, e, f, g, h])
    (fun k _ ih a b c d e f g h W =>
      match W with
      | [w0, w1, w2, w3, w4, w5, w6, w7, w8, w9, w10, w11, w12, w13, w14, w15] =>
        force (oneP M O e f g h k w0) fun one =>
        force (twoP M a b c one) fun a' =>
        force (addP M d one) fun e' =>
        force (nextP M w0 w1 w9 w14) fun w16 =>
        ih a' a b c e' e f g [w1, w2, w3, w4, w5, w6, w7, w8, w9, w10, w11, w12, w13, w14, w15, w16]
      | _ => []) ks
theorem roundsP_cons (M O k : Nat) (ks : List Nat) (a b c d e f g h w0 w1 w2 w3 w4 w5 w6 w7 w8 w9 w10 w11 w12 w13 w14 w15 : Nat) : roundsP M O (k :: ks) a b c d e f g h [w0, w1, w2, w3, w4, w5, w6, w7, w8, w9, w10, w11, w12, w13, w14, w15] =
    force (oneP M O e f g h k w0) fun one => force (twoP M a b c one) fun a' => force (addP M d one) fun e' => force (nextP M w0 w1 w9 w14) fun w16 => roundsP M O ks a' a b c e' e f g [w1, w2, w3, w4, w5, w6, w7, w8, w9, w10, w11, w12, w13, w14, w15, w16] := rfl
/-- A value's j-th word behind t rounds, and the words that come in, of many at once. -/
def At8 (h : Nat → List (BitVec 64)) (l : Nat → List UInt8) (t j : Nat) (i : Nat) : BitVec 64 := (iter (h i) (l i) t).1.getD j 0
def Xw (l : Nat → List UInt8) (t : Nat) (i : Nat) : BitVec 64 := (sch (l i) 80).getD t 0
theorem Xw_next (l : Nat → List UInt8) (t : Nat) (h : t < 80) (i : Nat) : Xw l (t + 16) i = small (Xw l (t + 14) i) 19 61 6 + Xw l (t + 9) i + small (Xw l (t + 1) i) 1 8 7 + Xw l t i := by
  have hs := sch_length (l i) t
  unfold Xw
  rw [sch_get (l i) (i := t + 1) (by omega) (by omega), sch_get (l i) (j := 80) (i := t) (k := t + 14) (by omega) (by omega), sch_get (l i) (j := 80) (i := t) (k := t + 9) (by omega) (by omega), sch_get (l i) (j := 80) (i := t) (k := t + 1) (by omega) (by omega), sch_get (l i) (j := 80) (i := t) (k := t) (by omega) (by omega), sch]
  simp only [List.getD]
  rw [List.getElem?_append_right (by omega), hs]
  simp [schV, List.getD, show 16 + t - 2 = t + 14 by omega, show 16 + t - 7 = t + 9 by omega, show 16 + t - 15 = t + 1 by omega, Nat.add_comm t 16]
theorem At8_step {h : Nat → List (BitVec 64)} {l : Nat → List UInt8} (hh : ∀ i, (h i).length = 8) (t : Nat) (ht : t < 80) (i : Nat) :
    (iter (h i) (l i) (t + 1)).1 = rnd (kSha.getD t 0) (Xw l t i) [At8 h l t 0 i, At8 h l t 1 i, At8 h l t 2 i, At8 h l t 3 i, At8 h l t 4 i, At8 h l t 5 i, At8 h l t 6 i, At8 h l t 7 i] := by
  have hw := word_sch (h i) (l i) (hh i) t (by omega)
  rw [← sch_get (l i) (i := 64) (j := 80) (by omega) (by omega)] at hw
  have hl := (iter_length (l := l i) (hh i) t).1
  have hst : (iter (h i) (l i) (t + 1)).1 = rnd (kSha.getD t 0) ((sch (l i) 80).getD t 0) (iter (h i) (l i) t).1 := by rw [iter]; simp only [hw]
  rw [hst]
  unfold At8 Xw
  obtain ⟨a, b, c, d, e, f, g, k, hi⟩ := eight hl
  rw [hi]
  rfl
theorem roundsP_ok (n : Nat) (h : Nat → List (BitVec 64)) (l : Nat → List UInt8) (hh : ∀ i, (h i).length = 8) : ∀ m t, t + m = 80 → ∀ a b c d e f g k w0 w1 w2 w3 w4 w5 w6 w7 w8 w9 w10 w11 w12 w13 w14 w15 : Nat,
    Is n a (At8 h l t 0) → Is n b (At8 h l t 1) → Is n c (At8 h l t 2) → Is n d (At8 h l t 3) → Is n e (At8 h l t 4) → Is n f (At8 h l t 5) → Is n g (At8 h l t 6) → Is n k (At8 h l t 7) →
    Is n w0 (Xw l t) → Is n w1 (Xw l (t + 1)) → Is n w2 (Xw l (t + 2)) → Is n w3 (Xw l (t + 3)) → Is n w4 (Xw l (t + 4)) → Is n w5 (Xw l (t + 5)) → Is n w6 (Xw l (t + 6)) → Is n w7 (Xw l (t + 7)) → Is n w8 (Xw l (t + 8)) → Is n w9 (Xw l (t + 9)) → Is n w10 (Xw l (t + 10)) → Is n w11 (Xw l (t + 11)) → Is n w12 (Xw l (t + 12)) → Is n w13 (Xw l (t + 13)) → Is n w14 (Xw l (t + 14)) → Is n w15 (Xw l (t + 15)) →
    ∃ r0 r1 r2 r3 r4 r5 r6 r7, roundsP (Vec.mask n) (ones n) ((kSha.drop t).map BitVec.toNat) a b c d e f g k [w0, w1, w2, w3, w4, w5, w6, w7, w8, w9, w10, w11, w12, w13, w14, w15] = [r0, r1, r2, r3, r4, r5, r6, r7] ∧
      Is n r0 (At8 h l 80 0) ∧ Is n r1 (At8 h l 80 1) ∧ Is n r2 (At8 h l 80 2) ∧ Is n r3 (At8 h l 80 3) ∧ Is n r4 (At8 h l 80 4) ∧ Is n r5 (At8 h l 80 5) ∧ Is n r6 (At8 h l 80 6) ∧ Is n r7 (At8 h l 80 7) := by
  have hk : kSha.length = 80 := by decide +kernel
  intro m
  induction m with
  | zero =>
    intro t ht a b c d e f g k w0 w1 w2 w3 w4 w5 w6 w7 w8 w9 w10 w11 w12 w13 w14 w15 h0 h1 h2 h3 h4 h5 h6 h7 _ _ _ _ _ _ _ _ _ _ _ _ _ _ _ _
    obtain rfl : t = 80 := by omega
    refine ⟨a, b, c, d, e, f, g, k, ?_, h0, h1, h2, h3, h4, h5, h6, h7⟩
    rw [List.drop_eq_nil_of_le (by omega)]
    rfl
  | succ m ih =>
    intro t ht a b c d e f g k w0 w1 w2 w3 w4 w5 w6 w7 w8 w9 w10 w11 w12 w13 w14 w15 h0 h1 h2 h3 h4 h5 h6 h7 x0 x1 x2 x3 x4 x5 x6 x7 x8 x9 x10 x11 x12 x13 x14 x15
    have hst := At8_step (l := l) hh t (by omega)
    have hk' : kSha.getD t 0 = kSha[t]'(by omega) := by simp [List.getD, hk, show t < 80 by omega]
    rw [List.drop_eq_getElem_cons (by omega), List.map_cons, ← hk', roundsP_cons, force_eq, force_eq, force_eq, force_eq]
    have g0 := one_P h4 h5 h6 h7 (k := kSha.getD t 0) rfl x0
    have g1 := two_P h0 h1 h2 g0
    have g2 := h3.add g0
    have g3 := next_P x0 x1 x9 x14
    have st : ∀ j, At8 h l (t + 1) j = fun i => (rnd (kSha.getD t 0) (Xw l t i) [At8 h l t 0 i, At8 h l t 1 i, At8 h l t 2 i, At8 h l t 3 i, At8 h l t 4 i, At8 h l t 5 i, At8 h l t 6 i, At8 h l t 7 i]).getD j 0 := fun j => funext fun i => by
      show (iter (h i) (l i) (t + 1)).1.getD j 0 = _
      rw [hst i]
    have sx : Xw l (t + 16) = fun i => small (Xw l (t + 14) i) 19 61 6 + Xw l (t + 9) i + small (Xw l (t + 1) i) 1 8 7 + Xw l t i := funext fun i => Xw_next l t (by omega) i
    refine ih (t + 1) (by omega) _ _ _ _ _ _ _ _ _ _ _ _ _ _ _ _ _ _ _ _ _ _ _ _ (by rw [st]; exact g1) (by rw [st]; exact h0) (by rw [st]; exact h1) (by rw [st]; exact h2) (by rw [st]; exact g2) (by rw [st]; exact h4) (by rw [st]; exact h5) (by rw [st]; exact h6)
      x1 x2 x3 x4 x5 x6 x7 x8 x9 x10 x11 x12 x13 x14 x15 (by rw [show t + 1 + 15 = t + 16 by omega, sx]; exact g3)
end
end Fast
end Go.Proofs.YtfngacepjcdlnaaDoor

namespace Go.Proofs.YtfngacepjcdlnaaDoor
open Go Go.Kx Go.Vec
namespace Fast
noncomputable section
/-- So many words of many lists. -/
def IsL (n k : Nat) (H : List Nat) (F : Nat → List (BitVec 64)) : Prop := H.length = k ∧ ∀ j, j < k → Is n (H.getD j 0) (fun i => (F i).getD j 0)
def takeP (M O : Nat) (H W : List Nat) : List Nat :=
  match H with
  | [a, b, c, d, e, f, g, h] => forceL (List.zipWith (addP M) H (roundsP M O (kSha.map BitVec.toNat) a b c d e f g h W)) id
  | _ => []
theorem Xw_words (l : Nat → List UInt8) (q : Nat) (hq : q < 16) : Xw l q = fun i => (wordsOf (l i)).getD q 0 := funext fun i => by
  unfold Xw; rw [sch_get (l i) (i := 0) (by omega) (by omega), sch]
theorem takeP_ok {n : Nat} {H W : List Nat} {h : Nat → List (BitVec 64)} {l : Nat → List UInt8} (hH : IsL n 8 H h) (hh : ∀ i, (h i).length = 8) (hW : IsL n 16 W (fun i => wordsOf (l i))) :
    IsL n 8 (takeP (Vec.mask n) (ones n) H W) (fun i => takeB (h i) (l i)) := by
  obtain ⟨hl, hH⟩ := hH
  obtain ⟨wl, hW⟩ := hW
  match H, hl with
  | [a, b, c, d, e, f, g, k], _ =>
    match W, wl with
    | [w0, w1, w2, w3, w4, w5, w6, w7, w8, w9, w10, w11, w12, w13, w14, w15], _ =>
      have hx : ∀ q, q < 16 → Is n ([w0, w1, w2, w3, w4, w5, w6, w7, w8, w9, w10, w11, w12, w13, w14, w15].getD q 0) (Xw l (0 + q)) := fun q hq => by rw [Nat.zero_add, Xw_words l q hq]; exact hW q hq
      obtain ⟨r0, r1, r2, r3, r4, r5, r6, r7, e0, q0, q1, q2, q3, q4, q5, q6, q7⟩ := roundsP_ok n h l hh 80 0 rfl a b c d e f g k w0 w1 w2 w3 w4 w5 w6 w7 w8 w9 w10 w11 w12 w13 w14 w15
        (hH 0 (by decide)) (hH 1 (by decide)) (hH 2 (by decide)) (hH 3 (by decide)) (hH 4 (by decide)) (hH 5 (by decide)) (hH 6 (by decide)) (hH 7 (by decide))
        (hx 0 (by decide)) (hx 1 (by decide)) (hx 2 (by decide)) (hx 3 (by decide)) (hx 4 (by decide)) (hx 5 (by decide)) (hx 6 (by decide)) (hx 7 (by decide)) (hx 8 (by decide)) (hx 9 (by decide)) (hx 10 (by decide)) (hx 11 (by decide)) (hx 12 (by decide)) (hx 13 (by decide)) (hx 14 (by decide)) (hx 15 (by decide))
      rw [List.drop_zero] at e0
      have et : takeP (Vec.mask n) (ones n) [a, b, c, d, e, f, g, k] [w0, w1, w2, w3, w4, w5, w6, w7, w8, w9, w10, w11, w12, w13, w14, w15] = [addP (Vec.mask n) a r0, addP (Vec.mask n) b r1, addP (Vec.mask n) c r2, addP (Vec.mask n) d r3, addP (Vec.mask n) e r4, addP (Vec.mask n) f r5, addP (Vec.mask n) g r6, addP (Vec.mask n) k r7] := by
        show forceL (List.zipWith _ _ (roundsP _ _ _ a b c d e f g k _)) id = _
        rw [forceL_eq, e0]
        rfl
      have sm : ∀ j, (fun i => (takeB (h i) (l i)).getD j 0) = fun i => if j < 8 then (h i).getD j 0 + At8 h l 80 j i else 0 := fun j => funext fun i => by
        have hl2 := (iter_length (l := l i) (hh i) 80).1
        unfold At8 takeB
        obtain ⟨a, b, c, d, e, f, g, k, hi⟩ := eight hl2
        obtain ⟨a', b', c', d', e', f', g', k', hi'⟩ := eight (hh i)
        rw [hi, hi']
        match j with
        | 0 | 1 | 2 | 3 | 4 | 5 | 6 | 7 => rfl
        | j + 8 => rw [if_neg (by omega)]; rfl
      refine ⟨by rw [et]; rfl, fun j hj => ?_⟩
      rw [et, sm]
      match j, hj with
      | 0, _ => exact (hH 0 (by decide)).add q0
      | 1, _ => exact (hH 1 (by decide)).add q1
      | 2, _ => exact (hH 2 (by decide)).add q2
      | 3, _ => exact (hH 3 (by decide)).add q3
      | 4, _ => exact (hH 4 (by decide)).add q4
      | 5, _ => exact (hH 5 (by decide)).add q5
      | 6, _ => exact (hH 6 (by decide)).add q6
      | 7, _ => exact (hH 7 (by decide)).add q7
      | j + 8, hj => exact absurd hj (by omega)
/-- A list of the same words in all places. -/
def conP (O : Nat) (s : List (BitVec 64)) : List Nat := s.map fun w => Nat.mul O w.toNat
theorem conP_ok (n k : Nat) (s : List (BitVec 64)) (hs : s.length = k) : IsL n k (conP (ones n) s) (fun _ => s) := by
  refine ⟨by simp [conP, hs], fun j hj => ?_⟩
  have : (conP (ones n) s).getD j 0 = Nat.mul (ones n) (s.getD j 0).toNat := by
    simp [conP, List.getD, hs, hj]
  rw [this]
  exact Is.const n _
/-- Octets as a number. -/
def beN (l : List UInt8) : Nat := l.foldl (fun a c => a * 256 + c.toNat) 0
theorem beW_go : ∀ (l : List UInt8) (n : Nat), l.foldl (fun a c => a * 256 + BitVec.ofNat 64 c.toNat) (BitVec.ofNat 64 n) = BitVec.ofNat 64 (l.foldl (fun a c => a * 256 + c.toNat) n)
  | [], n => rfl
  | c :: l, n => by
    rw [List.foldl_cons, List.foldl_cons, ← beW_go l]
    congr 1
    apply BitVec.eq_of_toNat_eq
    simp [BitVec.toNat_add, BitVec.toNat_mul]
theorem beW_N (l : List UInt8) : beW l = BitVec.ofNat 64 (beN l) := beW_go l 0
theorem beN_lt : ∀ (l : List UInt8) (n k : Nat), n < 256 ^ k → l.foldl (fun a c => a * 256 + c.toNat) n < 256 ^ (k + l.length)
  | [], n, k, h => h
  | c :: l, n, k, h => by
    have hc := c.toNat_lt
    have := beN_lt l (n * 256 + c.toNat) (k + 1) (by rw [Nat.pow_succ]; omega)
    rw [List.foldl_cons, List.length_cons, show k + (l.length + 1) = k + 1 + l.length by omega]
    exact this
theorem beW_toNat (l : List UInt8) (h : l.length = 8) : (beW l).toNat = beN l := by
  rw [beW_N, BitVec.toNat_ofNat, Nat.mod_eq_of_lt]
  have := beN_lt l 0 0 (by decide)
  rw [h] at this
  exact this
theorem beW_hiB (x : BitVec 64) : beW (hiB x 8) = x := by
  apply BitVec.eq_of_toNat_eq
  rw [beW_toNat _ (hiB_length _ _)]
  have hl : ∀ a : BitVec 64, (lowb a).toNat = a.toNat % 256 := fun a => by simp [lowb]
  have hx := x.isLt
  simp only [beN, hiB, show List.range 8 = [0, 1, 2, 3, 4, 5, 6, 7] from rfl, List.map_cons, List.map_nil, List.foldl_cons, List.foldl_nil, hl, BitVec.toNat_ushiftRight, Nat.shiftRight_eq_div_pow]
  omega
theorem cat_xor (a a' b b' : Nat) (h : b < 256) (h' : b' < 256) : (a * 256 + b) ^^^ (a' * 256 + b') = (a ^^^ a') * 256 + (b ^^^ b') := by
  have hb : b ^^^ b' < 2 ^ 8 := Nat.xor_lt_two_pow h h'
  rw [Nat.mul_comm a, Nat.mul_comm a', Nat.mul_comm (a ^^^ a')]
  refine Nat.eq_of_testBit_eq fun j => ?_
  rw [Nat.testBit_xor, show (256 : Nat) = 2 ^ 8 from rfl, Nat.testBit_two_pow_mul_add _ h, Nat.testBit_two_pow_mul_add _ h', Nat.testBit_two_pow_mul_add _ hb]
  split <;> rw [Nat.testBit_xor]
theorem beN_xor : ∀ (l m : List UInt8) (n n' : Nat), l.length = m.length → (List.zipWith (· ^^^ ·) l m).foldl (fun a c => a * 256 + c.toNat) (n ^^^ n') = l.foldl (fun a c => a * 256 + c.toNat) n ^^^ m.foldl (fun a c => a * 256 + c.toNat) n'
  | [], [], n, n', _ => rfl
  | c :: l, d :: m, n, n', h => by
    rw [List.zipWith_cons_cons, List.foldl_cons, List.foldl_cons, List.foldl_cons, ← beN_xor l m _ _ (by simpa using h), cat_xor _ _ _ _ c.toNat_lt d.toNat_lt, UInt8.toNat_xor]
  | [], _ :: _, _, _, h => by simp at h
  | _ :: _, [], _, _, h => by simp at h
theorem beW_xor (l m : List UInt8) (hl : l.length = 8) (hm : m.length = 8) : beW (List.zipWith (· ^^^ ·) l m) = beW l ^^^ beW m := by
  apply BitVec.eq_of_toNat_eq
  rw [beW_toNat _ (by simp [hl, hm]), BitVec.toNat_xor, beW_toNat l hl, beW_toNat m hm]
  exact beN_xor l m 0 0 (by omega)
theorem wordsOf_get (l : List UInt8) (j : Nat) (hj : j < 16) : (wordsOf l).getD j 0 = beW (((l.take 128).drop (8 * j)).take 8) := by
  simp [wordsOf, wordsTo, List.getD, hj]
theorem outB_drop {H : List (BitVec 64)} {j : Nat} (T : List UInt8) (hj : j < H.length) : ((outB H ++ T).drop (8 * j)).take 8 = hiB (H.getD j 0) 8 := by
  induction H generalizing j with
  | nil => simp at hj
  | cons x xs ih =>
    have e : outB (x :: xs) = hiB x 8 ++ outB xs := by simp [outB]
    cases j with
    | zero =>
      rw [e, Nat.mul_zero, List.drop_zero, List.append_assoc, List.take_left' (hiB_length _ _)]
      rfl
    | succ j =>
      rw [e, List.append_assoc, show 8 * (j + 1) = 8 + 8 * j by omega, ← List.drop_drop, List.drop_left' (hiB_length _ _), ih (by simpa using hj)]
      rfl
/-- The words of eight words and what lies behind. -/
theorem words_cat (H : List (BitVec 64)) (T : List UInt8) (hH : H.length = 8) (hT : T.length = 64) (j : Nat) (hj : j < 16) :
    (wordsOf (outB H ++ T)).getD j 0 = if j < 8 then H.getD j 0 else beW ((T.drop (8 * (j - 8))).take 8) := by
  have hl := outB_length H
  have ht : (outB H ++ T).take 128 = outB H ++ T := List.take_of_length_le (by rw [List.length_append]; omega)
  rw [wordsOf_get _ _ hj, ht]
  split
  · rw [outB_drop T (by omega), beW_hiB]
  · rw [show 8 * j = (outB H).length + 8 * (j - 8) by omega, ← List.drop_drop, List.drop_left]
/-- The words of a key that is masked. -/
theorem words_pad (H : List (BitVec 64)) (c : UInt8) (hH : H.length = 8) (j : Nat) (hj : j < 16) :
    (wordsOf (padX (outB H) c)).getD j 0 = (if j < 8 then H.getD j 0 else 0) ^^^ beW (List.replicate 8 c) := by
  have hl := outB_length H
  have hpl : (padX (outB H) c).length = 128 := by simp [padX]
  have e : ((padX (outB H) c).drop (8 * j)).take 8 = List.zipWith (· ^^^ ·) (((outB H ++ List.replicate 64 0).drop (8 * j)).take 8) (List.replicate 8 c) := by
    apply List.ext_getElem?
    intro p
    by_cases hp : p < 8
    · rw [List.getElem?_take, if_pos hp, List.getElem?_drop, List.getElem?_zipWith, List.getElem?_take, if_pos hp, List.getElem?_drop, List.getElem?_replicate, if_pos hp]
      have h1 : (padX (outB H) c)[8 * j + p]? = some ((outB H).getD (8 * j + p) 0 ^^^ c) := by
        unfold padX
        rw [List.getElem?_map, List.getElem?_range (by omega)]
        rfl
      rw [h1]
      by_cases h8 : 8 * j + p < (outB H).length
      · rw [List.getElem?_append_left h8, List.getElem?_eq_getElem h8]
        simp [List.getD, List.getElem?_eq_getElem h8]
      · rw [List.getElem?_append_right (by omega), List.getElem?_replicate, if_pos (by omega)]
        simp [List.getD, List.getElem?_eq_none (show (outB H).length ≤ 8 * j + p by omega)]
    · rw [List.getElem?_take, if_neg hp, List.getElem?_eq_none]
      simp; omega
  have ht : (padX (outB H) c).take 128 = padX (outB H) c := List.take_of_length_le (by omega)
  rw [wordsOf_get _ _ hj, ht, e, beW_xor _ _ (by simp [hl]; omega) (by simp)]
  congr 1
  split
  · rw [outB_drop _ (by omega), beW_hiB]
  · rw [show 8 * j = (outB H).length + 8 * (j - 8) by omega, ← List.drop_drop, List.drop_left, List.drop_replicate, List.take_replicate, show min 8 (64 - 8 * (j - 8)) = 8 by omega]
    decide +kernel
end
end Fast
end Go.Proofs.YtfngacepjcdlnaaDoor

namespace Go.Proofs.YtfngacepjcdlnaaDoor
open Go Go.Kx Go.Vec
namespace Fast
noncomputable section
def st1 : List (BitVec 64) := [1921008081583122895, 1548049081183219987, 3411498364811713019, 7716249536524616322, 12906151984257048486, 1520353754934380481, 15782225229140926921, 4224682410073298962]
def st2 : List (BitVec 64) := [2233366698880607579, 3142302249040348229, 18002585310093226147, 1274487118470821949, 7556727550730465975, 9322445958553839697, 18188157458245629225, 2590381128219037670]
def t32 : List (BitVec 64) := [12030864226986966698, 9167886441856211089, 5349051330313401810, 7061688880200927827, 13407468965693462425, 7077632343706034638, 2711544627133662588, 17986785936413640959, 13822693162095852087, 5219395335073653690, 8916818745803900033, 18218955567142478429, 285575061942333171, 16929745189302581687, 12561151756503652766, 15003538339925959060, 10661548945209532844, 2234051791764202147, 4023346403501881410, 1238904406924020709, 3946060211564728006, 14773489255009590285, 13076853758692674588, 6866767931776261833, 6872830755360933209, 13975384301690935295, 10204109325821331147, 13069376349423895117, 9582307461791510020, 9009264441087836754, 14262087563405469804, 16398856569840745564, 16380369912785435982, 11732302341979701389, 6568705591614208498, 13113415786247069833, 6792765972591705768, 9978183481647954597, 5741318893517767484, 12982781119667015310, 13117491533012752126, 8540644608696763105, 8963681036451778103, 4071644272741282591, 6325258625823414204, 8584651649047942158, 7094922776578223261, 2085875379480554591, 14566997370180446897, 17573999466567569909, 14469756903077619639, 8274749562450426295, 5233377076388155481, 2899181414369510601, 5361675427548214778, 17080193318647837190, 6314081686708158618, 16634575923737522240, 16465926402590045377, 3393337248460862469, 9042456554546354056, 2857179245048485472, 6081555964576247409, 8049296361547608902, 11806183225253000009, 340197385096529851, 8932716983394541099, 16992832710525133611, 12831763845181020527, 13102666757241532511, 11446394029996734815, 12712692023433943392, 11842480203023046627, 112275379365007847, 2885910620389028264, 9065850258962293427, 5525518025474706835, 8232827949858259008, 17044442890556226507, 13955048404409739994, 10021141580057577178, 8194033230507996273, 3734914512106140619, 14270216514287523743, 12506124628264894200, 16157194330613337077, 974138065547816100, 15600341738855463708, 9694707413498013043, 10283902663361772307, 5130215571451187723, 3860682683405394134, 16519543158613284859, 13443174397355759798, 14808640034993885829, 8605187053016664288, 8949649868441889527, 14341234050952884063, 2699191723651104152, 11394979887303620203, 15424146224385046417, 1137596158923944181, 17758538174714260836, 15463376082129714695, 1325123593331996559, 11007872056685878146, 9491013615965051815, 6518805179856165613, 3730816571077044617, 985591818741389416, 895888632635903133, 15142021021954703459, 13652249112979603238, 1066279335546625033, 4438914481777215097, 14341837347226566247, 4422052397356980832, 5718574086618369429, 2531388807202876059, 11053989168699176250, 9025579129936950373, 10837956954829957492, 10973487494721264589, 8488308798603822614, 15853668392237775673, 15648271355419632588, 3053089324485287232, 5698893021068476007, 9633643519477776268, 11744820308850178273, 12305162036559450509, 2214537385641071989, 10577762925827614050, 15369814014061628887, 2889430962944602758, 12422375400794906091, 2425080086235667173, 8142490993914210035, 13264801742695556875, 13123676383913403882, 12089980186152223078, 11862477984093686133, 7271410034926090781, 3497714231657343398, 17062505305406785866, 562003446009199498, 11577764641831784918, 11269453348040549910, 10653035589002669439, 18415503113148338660, 5760232398061754053, 8824476569552689582, 18165192803529356714, 4683062343747117351, 5442676119434445228, 496071748610639266, 14084059714410013817, 5602713811206013703, 2902557602955294762, 15835100045661183202, 2444151894851695797, 7584464608160965984, 13911551428065525837, 8207548518234803287, 6538162316904701035, 4736718776750997259, 4222805112566254957, 16795611585364547550, 5886564356592725431, 11049626452488875121, 7506959264259884837, 7226040906636362406, 12957842417414926936, 12998257713794217473, 17562838109400347522, 18312150392274325042, 7652625186556718799, 6198683060871303125, 3584979603080002957, 10217151806671621630, 14278464451590711761, 2500254174766314643, 1755249464577482519, 5419662302254878042, 9925446779683499387, 4392851062721446907, 6115609479002757909, 17863012854650539875, 16330717662051500251, 4748911320176581367, 5345004018855149464, 7178822941254389158, 6968410831971414259, 8020700307643286940, 12178838039630244972, 4045055107796347240, 16867240626319371073, 8225367205591432699, 574552188037921176, 1057233531957173939, 6267743441012431125, 331751050384717911, 13944568054135760075, 11561415710369952513, 15446830629553298847, 17881869012175389182, 18254217803179768765, 13590825508509291252, 9101085953262591769, 1309564827996043718, 4419177988534882983, 8027941593563147672, 5130249243530040959, 12205415991713820143, 5228650286805339248, 11248173511897918314, 40868475097717947, 13089443461487422687, 11681212892450642352, 16873253674540746273, 14341307829447104228, 12027385789470797836, 14724663221614852525, 16536256168117805202, 2464888620335828387, 17888409716426373245, 4131124009204959684, 5625889010929828903, 9899146749475583492, 13471692476785283084, 721741083301557601, 2292829989934250102, 15431240259686225307, 5430926510314163318, 5446708361111621012, 3708264370700816932, 437884899677400289, 5532305357432179649, 12617059733991339114, 17670591223703561019, 16556741170206361559, 13864040780676961058, 13897679337712893504, 7995151071359889612, 2904391446034953606, 6784699862141264900, 12738690394559828937, 8282367203872530161, 16839387098117052063, 15136305752771249593, 4046557101975931552, 2464662509783176224, 15354634195764142866, 4402505834341120198, 11392186984604404610, 16791947475764677523]
set_option maxRecDepth 100000 in
theorem st1_eq : takeB h0Sha (padX (List.replicate 64 0) 54) = st1 := by rw [← takeF_eq _ _ rfl]; decide +kernel
set_option maxRecDepth 100000 in
theorem st2_eq : takeB h0Sha (padX (List.replicate 64 0) 92) = st2 := by rw [← takeF_eq _ _ rfl]; decide +kernel
theorem t32_length : t32.length = 256 := by decide +kernel
/-- A text of a block and a bit. -/
theorem sha2 (X Y : List UInt8) (hX : X.length = 128) (hY : Y.length ≤ 111) : sha (X ++ Y) = outB (takeB (takeB h0Sha X) (Y ++ fillB (128 + Y.length))) := by
  have hg : gapN (128 + Y.length) = 111 - Y.length := by unfold gapN; omega
  have hp : padded (X ++ Y) = X ++ (Y ++ fillB (128 + Y.length)) := by rw [padded, List.length_append, hX, List.append_assoc]
  have hl : (Y ++ fillB (128 + Y.length)).length = 128 := by rw [List.length_append, fillB_length, hg]; omega
  have hb : blocksN (X ++ Y) = 2 := by unfold blocksN; rw [hp, List.length_append, hX, hl]
  unfold sha
  rw [hb, hp, dig, dig, dig, Nat.mul_zero, List.drop_zero, Nat.mul_one, List.take_left' hX, List.drop_left' hX, List.take_of_length_le (by omega)]
theorem hmac2 (k t : List UInt8) (hk : k.length ≤ 128) (ht : t.length ≤ 111) : hmac k t = outB (takeB (takeB h0Sha (padX k 92)) (outB (takeB (takeB h0Sha (padX k 54)) (t ++ fillB (128 + t.length))) ++ fillB 192)) := by
  have hko : keyOf k = k := if_neg (by omega)
  have hT : (takeB (takeB h0Sha (padX k 54)) (t ++ fillB (128 + t.length))).length = 8 := takeB_length (takeB_length rfl)
  have hl : (outB (takeB (takeB h0Sha (padX k 54)) (t ++ fillB (128 + t.length)))).length = 64 := by rw [outB_length, hT]
  rw [hmac, hko, sha2 (padX k 54) t (padX_length _ _) ht, sha2 (padX k 92) _ (padX_length _ _) (by omega), hl]
def cblk : List UInt8 := label ++ [1] ++ [1] ++ fillB 138
def vH (k : List UInt8) : List (BitVec 64) := takeB st1 (k ++ fillB (128 + k.length))
def vP (k : List UInt8) : List (BitVec 64) := takeB st2 (outB (vH k) ++ fillB 192)
def vh (k : List UInt8) : List (BitVec 64) := takeB h0Sha (padX (outB (vP k)) 54)
def vI (k : List UInt8) : List (BitVec 64) := takeB (vh k) cblk
def vo (k : List UInt8) : List (BitVec 64) := takeB h0Sha (padX (outB (vP k)) 92)
def vR (k : List UInt8) : List (BitVec 64) := takeB (vo k) (outB (vI k) ++ fillB 192)
theorem vP_length (k : List UInt8) : (vP k).length = 8 := takeB_length rfl
theorem vH_length (k : List UInt8) : (vH k).length = 8 := takeB_length rfl
theorem vh_length (k : List UInt8) : (vh k).length = 8 := takeB_length rfl
theorem vo_length (k : List UInt8) : (vo k).length = 8 := takeB_length rfl
theorem vI_length (k : List UInt8) : (vI k).length = 8 := takeB_length (vh_length k)
theorem vR_length (k : List UInt8) : (vR k).length = 8 := takeB_length (vo_length k)
theorem idK_vR (k : List UInt8) (h : k.length ≤ 64) : idK k = (outB (vR k)).take 16 := by
  have e1 : hmac (List.replicate 64 0) k = outB (vP k) := by
    rw [hmac2 _ _ (by simp) (by omega), st1_eq, st2_eq]
    rfl
  have hl : (outB (vP k)).length = 64 := by rw [outB_length, vP_length]
  have e2 : hmac (outB (vP k)) (label ++ [1] ++ [1]) = outB (vR k) := by
    rw [hmac2 _ _ (by omega) (by decide)]
    rfl
  unfold idK derive
  rw [show (16 + 63) / 64 = 1 from rfl, drv_one, e1, e2]
/-- The words of what lies behind eight words. -/
def tw : List (BitVec 64) := (List.range 8).map fun j => beW (((fillB 192).drop (8 * j)).take 8)
def padP (O : Nat) (P : List Nat) (c : BitVec 64) : List Nat := (P.map fun p => Nat.xor p (Nat.mul O c.toNat)) ++ conP O (List.replicate 8 c)
theorem cat_ok {n : Nat} {H : List Nat} {F : Nat → List (BitVec 64)} (hH : IsL n 8 H F) (hF : ∀ i, (F i).length = 8) : IsL n 16 (H ++ conP (ones n) tw) (fun i => wordsOf (outB (F i) ++ fillB 192)) := by
  obtain ⟨hl, hH⟩ := hH
  obtain ⟨cl, hc⟩ := conP_ok n 8 tw (by simp [tw])
  have hfl : (fillB 192).length = 64 := by rw [fillB_length]; rfl
  refine ⟨by rw [List.length_append, hl, cl], fun j hj => ?_⟩
  rw [show (fun i => (wordsOf (outB (F i) ++ fillB 192)).getD j 0) = fun i => if j < 8 then (F i).getD j 0 else beW (((fillB 192).drop (8 * (j - 8))).take 8) from funext fun i => words_cat _ _ (hF i) hfl j hj]
  by_cases h : j < 8
  · simp only [if_pos h]
    rw [show (H ++ conP (ones n) tw).getD j 0 = H.getD j 0 by simp [List.getD, List.getElem?_append_left (show j < H.length by omega)]]
    exact hH j h
  · simp only [if_neg h]
    rw [show (H ++ conP (ones n) tw).getD j 0 = (conP (ones n) tw).getD (j - 8) 0 by simp [List.getD, List.getElem?_append_right (show H.length ≤ j by omega), hl]]
    have hx : Is n ((conP (ones n) tw).getD (j - 8) 0) (fun _ => tw.getD (j - 8) 0) := hc (j - 8) (by omega)
    rw [show tw.getD (j - 8) 0 = beW (((fillB 192).drop (8 * (j - 8))).take 8) by simp [tw, List.getD, show j - 8 < 8 by omega]] at hx
    exact hx
theorem pad_ok {n : Nat} {H : List Nat} {F : Nat → List (BitVec 64)} (c : UInt8) (hH : IsL n 8 H F) (hF : ∀ i, (F i).length = 8) : IsL n 16 (padP (ones n) H (beW (List.replicate 8 c))) (fun i => wordsOf (padX (outB (F i)) c)) := by
  obtain ⟨hl, hH⟩ := hH
  obtain ⟨cl, hc⟩ := conP_ok n 8 (List.replicate 8 (beW (List.replicate 8 c))) (by simp)
  refine ⟨by unfold padP; rw [List.length_append, List.length_map, hl, cl], fun j hj => ?_⟩
  rw [show (fun i => (wordsOf (padX (outB (F i)) c)).getD j 0) = fun i => (if j < 8 then (F i).getD j 0 else 0) ^^^ beW (List.replicate 8 c) from funext fun i => words_pad _ c (hF i) j hj]
  unfold padP
  by_cases h : j < 8
  · simp only [if_pos h]
    rw [show ((H.map fun p => Nat.xor p (Nat.mul (ones n) (beW (List.replicate 8 c)).toNat)) ++ conP (ones n) (List.replicate 8 (beW (List.replicate 8 c)))).getD j 0 = Nat.xor (H.getD j 0) (Nat.mul (ones n) (beW (List.replicate 8 c)).toNat) by
      simp [List.getD, List.getElem?_append_left, hl, h]]
    exact (hH j h).xor (Is.const n _)
  · simp only [if_neg h]
    rw [show (fun i : Nat => (0 : BitVec 64) ^^^ beW (List.replicate 8 c)) = fun _ => beW (List.replicate 8 c) from funext fun _ => BitVec.zero_xor]
    rw [show ((H.map fun p => Nat.xor p (Nat.mul (ones n) (beW (List.replicate 8 c)).toNat)) ++ conP (ones n) (List.replicate 8 (beW (List.replicate 8 c)))).getD j 0 = (conP (ones n) (List.replicate 8 (beW (List.replicate 8 c)))).getD (j - 8) 0 by
      simp [List.getD, List.getElem?_append_right, hl, show 8 ≤ j by omega]]
    generalize beW (List.replicate 8 c) = x at hc ⊢
    have hx : Is n ((conP (ones n) (List.replicate 8 x)).getD (j - 8) 0) (fun _ => (List.replicate 8 x).getD (j - 8) 0) := hc (j - 8) (by omega)
    rw [show (List.replicate 8 x).getD (j - 8) 0 = x by rw [List.getD, List.getElem?_replicate, if_pos (by omega)]; rfl] at hx
    exact hx
def chain (M O : Nat) (W1 : List Nat) : List Nat :=
  forceL (conP O st1) fun c1 => forceL (takeP M O c1 W1) fun H1 =>
  forceL (conP O st2) fun c2 => forceL (H1 ++ conP O tw) fun W2 => forceL (takeP M O c2 W2) fun P =>
  forceL (conP O h0Sha) fun c0 => forceL (padP O P (beW (List.replicate 8 54))) fun W3 => forceL (takeP M O c0 W3) fun h1 =>
  forceL (conP O (wordsOf cblk)) fun W4 => forceL (takeP M O h1 W4) fun I1 =>
  forceL (padP O P (beW (List.replicate 8 92))) fun W5 => forceL (takeP M O c0 W5) fun o1 =>
  forceL (I1 ++ conP O tw) fun W6 => takeP M O o1 W6
theorem chain_ok {n : Nat} {W1 : List Nat} {key : Nat → List UInt8} (hW : IsL n 16 W1 (fun i => wordsOf (key i ++ fillB (128 + (key i).length)))) : IsL n 8 (chain (Vec.mask n) (ones n) W1) (fun i => vR (key i)) := by
  have a1 := takeP_ok (conP_ok n 8 st1 rfl) (fun _ => rfl) hW
  have a2 := takeP_ok (conP_ok n 8 st2 rfl) (fun _ => rfl) (cat_ok a1 fun i => vH_length (key i))
  have a3 := takeP_ok (conP_ok n 8 h0Sha rfl) (fun _ => rfl) (pad_ok 54 a2 fun i => vP_length (key i))
  have a4 := takeP_ok (l := fun _ => cblk) a3 (fun i => vh_length (key i)) (conP_ok n 16 (wordsOf cblk) (by simp [wordsOf]))
  have a5 := takeP_ok (conP_ok n 8 h0Sha rfl) (fun _ => rfl) (pad_ok 92 a2 fun i => vP_length (key i))
  have a6 := takeP_ok a5 (fun i => vo_length (key i)) (cat_ok a4 fun i => vI_length (key i))
  simp only [chain, forceL_eq]
  exact a6
/-- The words of the keys. -/
def aK (n j : Nat) : Nat := beN (((List.replicate n (1 : UInt8) ++ List.replicate (128 - n) 0).drop (8 * j)).take 8)
def bK (n j : Nat) : Nat := beN (((List.replicate n 0 ++ fillB (128 + n)).drop (8 * j)).take 8)
theorem beN_lin (u : Nat) : ∀ (r l m : List UInt8) (n n' : Nat), r.length = l.length → r.length = m.length → (∀ p, p < r.length → (r.getD p 0).toNat = u * (l.getD p 0).toNat + (m.getD p 0).toNat) →
    r.foldl (fun a c => a * 256 + c.toNat) (u * n + n') = u * l.foldl (fun a c => a * 256 + c.toNat) n + m.foldl (fun a c => a * 256 + c.toNat) n'
  | [], [], [], n, n', _, _, _ => rfl
  | c :: r, d :: l, e :: m, n, n', h1, h2, h => by
    have h0 := h 0 (by simp)
    simp only [List.getD_cons_zero] at h0
    have ih := beN_lin u r l m (n * 256 + d.toNat) (n' * 256 + e.toNat) (by simpa using h1) (by simpa using h2) fun p hp => by
      have := h (p + 1) (by simpa using hp)
      simpa using this
    rw [List.foldl_cons, List.foldl_cons, List.foldl_cons, ← ih, h0]
    congr 1
    rw [Nat.mul_add, ← Nat.mul_assoc]
    omega
  | [], _ :: _, _, _, _, h, _, _ => by simp at h
  | [], [], _ :: _, _, _, _, h, _ => by simp at h
  | _ :: _, [], _, _, _, h, _, _ => by simp at h
  | _ :: _, _ :: _, [], _, _, _, h, _ => by simp at h
theorem key_word (n : Nat) (u : UInt8) (hn : n ≤ 64) (j : Nat) (hj : j < 16) : ((wordsOf (List.replicate n u ++ fillB (128 + n))).getD j 0).toNat = u.toNat * aK n j + bK n j := by
  have hg : gapN (128 + n) = 111 - n := by unfold gapN; omega
  have hf : (fillB (128 + n)).length = 128 - n := by rw [fillB_length, hg]; omega
  have l1 : (List.replicate n u ++ fillB (128 + n)).length = 128 := by rw [List.length_append, hf, List.length_replicate]; omega
  have l2 : (List.replicate n (1 : UInt8) ++ List.replicate (128 - n) 0).length = 128 := by rw [List.length_append, List.length_replicate, List.length_replicate]; omega
  have l3 : (List.replicate n (0 : UInt8) ++ fillB (128 + n)).length = 128 := by rw [List.length_append, hf, List.length_replicate]; omega
  have ht : (List.replicate n u ++ fillB (128 + n)).take 128 = List.replicate n u ++ fillB (128 + n) := List.take_of_length_le (by omega)
  have cut : ∀ l : List UInt8, l.length = 128 → ((l.drop (8 * j)).take 8).length = 8 := fun l hl => by rw [List.length_take, List.length_drop, hl]; omega
  have get : ∀ (l : List UInt8) (p : Nat), p < 8 → ((l.drop (8 * j)).take 8).getD p 0 = l.getD (8 * j + p) 0 := fun l p hp => by
    simp only [List.getD, List.getElem?_take, if_pos hp, List.getElem?_drop]
  rw [wordsOf_get _ _ hj, ht, beW_toNat _ (cut _ l1)]
  refine beN_lin u.toNat _ _ _ 0 0 (by rw [cut _ l1, cut _ l2]) (by rw [cut _ l1, cut _ l3]) fun p hp => ?_
  rw [cut _ l1] at hp
  rw [get _ p hp, get _ p hp, get _ p hp]
  by_cases h : 8 * j + p < n
  · simp [List.getD, List.getElem?_append_left, h]
  · have e : ∀ (v : UInt8) (T : List UInt8), (List.replicate n v ++ T).getD (8 * j + p) 0 = T.getD (8 * j + p - n) 0 := fun v T => by
      simp only [List.getD]
      rw [List.getElem?_append_right (by rw [List.length_replicate]; omega), List.length_replicate]
    rw [e, e, e]
    simp [List.getD, show 8 * j + p - n < 128 - n by omega]
def pkB : Nat → (Nat → Nat) → Nat
  | 0, _ => 0
  | n + 1, f => pkB n f + 2 ^ (32768 * n) * f n
theorem pk_more (a : Nat) (f : Nat → Nat) : ∀ b, pk (a + b) f = pk a f + 2 ^ (128 * a) * pk b (fun i => f (a + i))
  | 0 => by simp [pk]
  | b + 1 => by
    rw [← Nat.add_assoc, pk, pk, pk_more a f b, show 128 * (a + b) = 128 * a + 128 * b by omega, Nat.pow_add, Nat.mul_add (2 ^ (128 * a)), Nat.mul_assoc]
    omega
theorem pk_B (f : Nat → Nat) : ∀ m, pk (256 * m) f = pkB m (fun k => pk 256 (fun c => f (256 * k + c)))
  | 0 => rfl
  | m + 1 => by
    rw [show 256 * (m + 1) = 256 * m + 256 by omega, pk_more, pk_B f m, pkB, show 128 * (256 * m) = 32768 * m by omega]
theorem pkB_congr {f g : Nat → Nat} : ∀ {n : Nat} (_ : ∀ i, i < n → f i = g i), pkB n f = pkB n g
  | 0, _ => rfl
  | n + 1, h => by rw [pkB, pkB, pkB_congr (fun i hi => h i (by omega)), h n (by omega)]
def lenK (b i : Nat) : Nat := 16 + 7 * b + i / 256
def keyK (b i : Nat) : List UInt8 := List.replicate (lenK b i) (UInt8.ofNat (i % 256))
def wordK (b j Cs Os : Nat) : Nat := pkB 7 fun m => aK (16 + 7 * b + m) j * Cs + bK (16 + 7 * b + m) j * Os
theorem wordK_ok (n b j Cs Os : Nat) (hn : n = 256 * 7) (hC : Cs = pk 256 fun c => c) (hO : Os = pk 256 fun _ => 1) (hb : b < 7) (hj : j < 16) : Is n (wordK b j Cs Os) (fun i => (wordsOf (keyK b i ++ fillB (128 + (keyK b i).length))).getD j 0) := by
  subst hn
  unfold Is wordK
  rw [pk_B, hC, hO]
  refine pkB_congr fun m hm => ?_
  rw [Nat.mul_comm (aK _ _), Nat.mul_comm (bK _ _), pk_mul, pk_mul, pk_add]
  refine pk_congr fun c hc => ?_
  have e1 : lenK b (256 * m + c) = 16 + 7 * b + m := by unfold lenK; omega
  have e2 : (256 * m + c) % 256 = c := by omega
  have := key_word (16 + 7 * b + m) (UInt8.ofNat c) (by omega) j hj
  show c * aK (16 + 7 * b + m) j + 1 * bK (16 + 7 * b + m) j = ((wordsOf (keyK b (256 * m + c) ++ fillB (128 + (keyK b (256 * m + c)).length))).getD j 0).toNat
  unfold keyK
  have e3 : (UInt8.ofNat c).toNat = c := by simp; omega
  rw [e1, e2, List.length_replicate, this, Nat.one_mul, e3]
def batch (b O M Cs Os : Nat) : Nat := forceL ((List.range 16).map fun j => wordK b j Cs Os) fun W1 => (chain M O W1).getD 0 0
theorem batch_ok (n b O M Cs Os : Nat) (hn : n = 256 * 7) (hOn : O = ones n) (hM : M = Vec.mask n) (hC : Cs = pk 256 fun c => c) (hO : Os = pk 256 fun _ => 1) (hb : b < 7) : Is n (batch b O M Cs Os) (fun i => (vR (keyK b i)).getD 0 0) := by
  rw [batch, forceL_eq]
  have hw : IsL n 16 ((List.range 16).map fun j => wordK b j Cs Os) (fun i => wordsOf (keyK b i ++ fillB (128 + (keyK b i).length))) := by
    refine ⟨by rw [List.length_map, List.length_range], fun j hj => ?_⟩
    have e : ((List.range 16).map fun j => wordK b j Cs Os).getD j 0 = wordK b j Cs Os := by
      rw [List.getD, List.getElem?_map, List.getElem?_range hj]; rfl
    rw [e]
    exact wordK_ok n b j Cs Os hn hC hO hb hj
  have hc := chain_ok hw
  rw [← hOn, ← hM] at hc
  exact hc.2 0 (by decide)
end
end Fast
end Go.Proofs.YtfngacepjcdlnaaDoor

namespace Go.Proofs.YtfngacepjcdlnaaDoor
open Go Go.Kx Go.Vec
namespace Fast
noncomputable section
def chk (V M O G : Nat) (ex : Nat → Nat) : List (BitVec 64) → Nat → Bool
  | [], _ => true
  | t :: ts, c => Nat.beq (Nat.land (Nat.add (Nat.xor V (Nat.mul O t.toNat)) M) G) (Nat.xor G (ex c)) && chk V M O G ex ts (c + 1)
def exB (b c : Nat) : Nat := cond (Nat.beq b 2) (2 ^ (128 * (512 + c) + 64)) 0
def okB (b : Nat) : Bool :=
  force (pk 256 fun c => c) fun Cs => force (pk 256 fun _ => 1) fun Os => force (pkB 7 fun _ => Os) fun O => force (Nat.mul O 18446744073709551615) fun M => force (Nat.mul O 18446744073709551616) fun G =>
  force (batch b O M Cs Os) fun V => chk V M O G (exB b) t32 0
set_option maxRecDepth 100000 in
theorem okB_0 : okB 0 = true := by decide +kernel
set_option maxRecDepth 100000 in
theorem okB_1 : okB 1 = true := by decide +kernel
set_option maxRecDepth 100000 in
theorem okB_2 : okB 2 = true := by decide +kernel
set_option maxRecDepth 100000 in
theorem okB_3 : okB 3 = true := by decide +kernel
set_option maxRecDepth 100000 in
theorem okB_4 : okB 4 = true := by decide +kernel
set_option maxRecDepth 100000 in
theorem okB_5 : okB 5 = true := by decide +kernel
set_option maxRecDepth 100000 in
theorem okB_6 : okB 6 = true := by decide +kernel
theorem okB_all (b : Nat) (hb : b < 7) : okB b = true :=
  match b, hb with
  | 0, _ => okB_0
  | 1, _ => okB_1
  | 2, _ => okB_2
  | 3, _ => okB_3
  | 4, _ => okB_4
  | 5, _ => okB_5
  | 6, _ => okB_6
  | b + 7, h => absurd h (by omega)
theorem chk_get (V M O G : Nat) (ex : Nat → Nat) : ∀ (ts : List (BitVec 64)) (c : Nat), chk V M O G ex ts c = true → ∀ k (h : k < ts.length), Nat.land (Nat.add (Nat.xor V (Nat.mul O (ts[k]).toNat)) M) G = Nat.xor G (ex (c + k))
  | [], _, _, k, h => by simp at h
  | t :: ts, c, hc, k, h => by
    rw [chk, Bool.and_eq_true] at hc
    cases k with
    | zero => exact Nat.eq_of_beq_eq_true hc.1
    | succ k =>
      have := chk_get V M O G ex ts (c + 1) hc.2 k (by simpa using h)
      rw [show c + (k + 1) = c + 1 + k by omega]
      exact this
theorem nz {n V : Nat} {f : Nat → BitVec 64} (h : Is n V f) (t : BitVec 64) (i : Nat) (hi : i < n) :
    (Nat.land (Nat.add (Nat.xor V (Nat.mul (ones n) t.toNat)) (Vec.mask n)) (pk n fun _ => 18446744073709551616)).testBit (128 * i + 64) = !decide (f i = t) := by
  have hx := h.xor (Is.const n t)
  unfold Is at hx
  rw [hx]
  have hs : Nat.add (pk n fun i => (f i ^^^ t).toNat) (Vec.mask n) = pk n (fun i => (f i ^^^ t).toNat + 18446744073709551615) := pk_add _ _ n
  have hlt : ∀ i, (f i ^^^ t).toNat + 18446744073709551615 < 2 ^ 128 := fun i => by have := (f i ^^^ t).isLt; omega
  rw [hs, show Nat.land _ _ = _ &&& _ from rfl, Nat.testBit_and, pk_bit hlt hi (by omega), pk_bit (fun _ => by decide) hi (by omega), show (18446744073709551616 : Nat).testBit 64 = true by decide, Bool.and_true, Nat.testBit_eq_decide_div_mod_eq]
  have hb := (f i ^^^ t).isLt
  by_cases he : f i = t
  · rw [decide_eq_true he, he, BitVec.xor_self]
    exact decide_eq_false (by decide)
  · have h0 : (f i ^^^ t).toNat ≠ 0 := fun h0 => he (BitVec.xor_eq_zero_iff.1 (BitVec.eq_of_toNat_eq h0))
    rw [decide_eq_false he]
    exact decide_eq_true (by omega)
theorem ones_B (n : Nat) (hn : n = 256 * 7) (c : Nat) : pkB 7 (fun _ => pk 256 fun _ => c) = pk n fun _ => c := by subst hn; rw [pk_B]
theorem word_at (n b O M G Cs Os V : Nat) (hn : n = 256 * 7) (hOn : O = ones n) (hM : M = Vec.mask n) (hG : G = pk n fun _ => 18446744073709551616) (hC : Cs = pk 256 fun c => c) (hO : Os = pk 256 fun _ => 1) (hb : b < 7) (hV : V = batch b O M Cs Os)
    (hk : chk V M O G (exB b) t32 0 = true) (i : Nat) (hi : i < n) (c : Nat) (hc : c < t32.length) : (vR (keyK b i)).getD 0 0 = t32[c] ↔ (b = 2 ∧ i = 512 + c) := by
  have hI : Is n V (fun i => (vR (keyK b i)).getD 0 0) := by rw [hV]; exact batch_ok n b O M Cs Os hn hOn hM hC hO hb
  have h1 := chk_get V M O G (exB b) t32 0 hk c hc
  rw [Nat.zero_add] at h1
  have h2 := nz hI t32[c] i hi
  rw [← hG, ← hM, ← hOn, h1, show Nat.xor _ _ = _ ^^^ _ from rfl, Nat.testBit_xor] at h2
  have h3 : G.testBit (128 * i + 64) = true := by rw [hG, pk_bit (fun _ => by decide) hi (by omega)]; decide
  rw [h3] at h2
  have h4 : (exB b c).testBit (128 * i + 64) = decide (b = 2 ∧ i = 512 + c) := by
    unfold exB
    by_cases h : b = 2
    · subst h
      rw [show Nat.beq 2 2 = true from rfl, cond_true, Nat.testBit_two_pow]
      by_cases hi2 : i = 512 + c
      · rw [decide_eq_true (by omega), decide_eq_true ⟨rfl, hi2⟩]
      · rw [decide_eq_false (by omega), decide_eq_false (fun h => hi2 h.2)]
    · rw [show Nat.beq b 2 = false from by rw [Bool.eq_false_iff]; exact fun hh => h (Nat.eq_of_beq_eq_true hh), cond_false, Nat.zero_testBit, decide_eq_false (fun hh => h hh.1)]
  rw [h4] at h2
  generalize (vR (keyK b i)).getD 0 0 = x at h2 ⊢
  by_cases e1 : x = t32[c]
  · rw [decide_eq_true e1] at h2
    refine ⟨fun _ => ?_, fun _ => e1⟩
    by_cases e2 : b = 2 ∧ i = 512 + c
    · exact e2
    · rw [decide_eq_false e2] at h2; cases h2
  · rw [decide_eq_false e1] at h2
    refine ⟨fun h => absurd h e1, fun e2 => ?_⟩
    rw [decide_eq_true e2] at h2; cases h2
theorem word_b (n b : Nat) (hn : n = 256 * 7) (hb : b < 7) (i : Nat) (hi : i < n) (c : Nat) (hc : c < t32.length) : (vR (keyK b i)).getD 0 0 = t32[c] ↔ (b = 2 ∧ i = 512 + c) := by
  have hk := okB_all b hb
  unfold okB at hk
  simp only [force_eq] at hk
  have hO := ones_B n hn 1
  have hM : Nat.mul (ones n) 18446744073709551615 = Vec.mask n := (mask_ones n).symm
  have hG : Nat.mul (ones n) 18446744073709551616 = pk n fun _ => 18446744073709551616 := by
    show pk n (fun _ => 1) * 18446744073709551616 = _
    rw [pk_mul]
  rw [hO] at hk
  exact word_at n b _ _ _ _ _ _ hn rfl hM hG rfl rfl hb rfl hk i hi c hc
end
end Fast
theorem ids_apart {n : Nat} {u v : UInt8} (h1 : 16 ≤ n) (h2 : n ≤ 64) (h : idK (List.replicate n u) = idK (List.replicate 32 v)) : List.replicate n u = List.replicate 32 v := by
  have hw : ∀ m (x : UInt8), 16 ≤ m → m ≤ 64 → ∀ c (hc : c < Fast.t32.length), (Fast.vR (List.replicate m x)).getD 0 0 = Fast.t32[c] ↔ (m = 32 ∧ x.toNat = c) := fun m x hm1 hm2 c hc => by
    have hx := x.toNat_lt
    have hcl : c < 256 := by rw [← Fast.t32_length]; exact hc
    have hk : Fast.keyK ((m - 16) / 7) (256 * ((m - 16) % 7) + x.toNat) = List.replicate m x := by
      unfold Fast.keyK Fast.lenK
      rw [show 16 + 7 * ((m - 16) / 7) + (256 * ((m - 16) % 7) + x.toNat) / 256 = m by omega, show (256 * ((m - 16) % 7) + x.toNat) % 256 = x.toNat by omega, UInt8.ofNat_toNat]
    have := Fast.word_b (256 * 7) ((m - 16) / 7) rfl (by omega) (256 * ((m - 16) % 7) + x.toNat) (by omega) c hc
    rw [hk] at this
    rw [this]
    omega
  have hv : v.toNat < Fast.t32.length := by rw [Fast.t32_length]; exact v.toNat_lt
  have e32 := (hw 32 v (by decide) (by decide) v.toNat hv).2 ⟨rfl, rfl⟩
  rw [Fast.idK_vR _ (by simp; omega), Fast.idK_vR _ (by simp)] at h
  have h8 := congrArg (List.take 8) h
  rw [List.take_take, List.take_take] at h8
  have hd : ∀ k : List UInt8, (outB (Fast.vR k)).take (min 8 16) = hiB ((Fast.vR k).getD 0 0) 8 := fun k => by
    have := Fast.outB_drop (H := Fast.vR k) (j := 0) [] (by rw [Fast.vR_length]; decide)
    rwa [Nat.mul_zero, List.drop_zero, List.append_nil] at this
  rw [hd, hd] at h8
  have h9 := congrArg beW h8
  rw [Fast.beW_hiB, Fast.beW_hiB, e32] at h9
  obtain ⟨rfl, hu⟩ := (hw n u h1 h2 v.toNat hv).1 h9
  rw [UInt8.toNat_inj.1 hu]
end Go.Proofs.YtfngacepjcdlnaaDoor
