/- Deeds in memory; the word of what a deed has: walked. -/
import Derived.Test.YtgobmphkakmdmaaDoorUg
import Derived.Test.YtgobmphkakmdmaaDoorUh
set_option linter.unusedVariables false
namespace Go.Sc
/-- A field's letter. -/
def ltr : Fld → UInt8
  | .p => 80 | .a => 65 | .b => 66 | .l => 76 | .n => 78 | .m => 77 | .k => 75
end Go.Sc
namespace Go.Proofs.YtgobmphkakmdmaaDoor
open Go Go.Kx Go.Sc
/-- A deed in memory. -/
structure DeedC where
  kind : Int
  n : Int
  m : Int
  k : Int
  path : List UInt8
  as_ : List UInt8
  ba : Option Addr
  bc : Nat
  b : List UInt8
  ka : Option Addr
  kc : Nat
  keep : List Int
instance : Inhabited DeedC := ⟨0, 0, 0, 0, [], [], none, 0, [], none, 0, []⟩
def dC (x : DeedC) : List Value := [.int .i64 x.kind, .int .i64 x.n, .int .i64 x.m, .int .i64 x.k, strV x.path, strV x.as_, .slice x.ba x.b.length x.bc, .slice x.ka x.keep.length x.kc]
def in64 (n : Int) : Prop := -9223372036854775808 ≤ n ∧ n ≤ 9223372036854775807
/-- It can be read; D holds of the inner blocks. -/
structure DOk (w : World) (x : DeedC) (D : Nat → Prop) : Prop where
  b : SlE w .u8 x.ba x.b.length x.bc (bs8 x.b) D
  keep : SlE w .i64 x.ka x.keep.length x.kc x.keep D
  kind : in64 x.kind
  n : in64 x.n
  m : in64 x.m
  k : in64 x.k
  each : ∀ n ∈ x.keep, in64 n
theorem DOk.kp {S D : Nat → Prop} {w w' : World} {x : DeedC} (h : DOk w x D) (hk : Kp S w w') (hb : ∀ b, D b → ¬ S b) : DOk w' x D := ⟨h.b.kp hk hb, h.keep.kp hk hb, h.kind, h.n, h.m, h.k, h.each⟩
theorem DOk.kpn {D : Nat → Prop} {w w' : World} {x : DeedC} (h : DOk w x D) (hk : Kp No w w') : DOk w' x D := h.kp hk fun _ _ => id
/-- Not too great. -/
structure DSm (x : DeedC) : Prop where
  path : x.path.length ≤ 3000
  as_ : x.as_.length ≤ 3000
  b : x.b.length ≤ 3000
  keep : x.keep.length ≤ 100
/-- What it is, plainly. -/
def DeedC.plain (x : DeedC) : Deed := ⟨x.kind.toNat, x.path, x.as_, x.b, x.n, x.m, x.k, x.keep⟩
theorem bs8_len (l : List UInt8) : (bs8 l).length = l.length := by simp [bs8]
set_option maxRecDepth 100000 in
set_option maxHeartbeats 4000000 in
theorem part_calls (x : DeedC) (f : Fld) (w : World) {D : Nat → Prop} (h : DOk w x D) (hs : DSm x) (hT : Tab w) :
    Calls Tryd.prog 18 #[.agg (dC x).toArray, .int .i32 ((ltr f).toNat : Int)] w fun e w' => e = .returned (strV (Sc.part x.plain f)) ∧ Kp No w w' := by
  obtain ⟨c, hc⟩ : ∃ c : Int, c = ((ltr f).toNat : Int) := ⟨_, rfl⟩
  rw [← hc]
  refine calls_at (n := 40) Tryd.func18 rfl rfl (by simp) ?_
  obtain ⟨hp, ha, hb, hk⟩ := hs
  (refine At_seq ?_; refine At_region ?_)
  refine AtR_go rfl (G_val (r_box rfl) ?_)
  rintro _ w1 ⟨b1, rfl, hb1, e1⟩
  have k1 : Kp No w w1 := e1.kp (.inr (by omega))
  have B1 : Blk w1 b1 32 (0, 0) (dC x) := e1.blk
  clear e1
  replace h := h.kpn k1
  replace hT := hT.kpn k1
  cases f
  · replace hc : c = 80 := hc
    (refine s_as ?_; refine AtR_nil ?_; refine At_seq ?_; refine At_seq ?_; refine At_region ?_; refine s_mv ?_; refine AtR_nil ?_; refine At_block ?_; refine At_seq ?_; refine At_region ?_; refine s_eql ?_; refine s_as ?_; refine AtR_nil ?_; refine At_cond_t rfl ?_; refine At_seq ?_; refine At_region ?_; refine s_fa ?_; refine s_ld ?_)
    refine s_call x_call (word_calls x.path _ (by omega)) ?_
    rintro _ w2 ⟨rfl, k2⟩
    refine ⟨_, rfl, ?_⟩
    (refine s_as ?_; refine AtR_nil ?_)
    refine At_ret1 Tryd.func18 rfl (by conv => lhs; whnf) ?_
    exact ⟨rfl, k1.trans k2⟩
  · replace hc : c = 65 := hc
    (refine s_as ?_; refine AtR_nil ?_; refine At_seq ?_; refine At_seq ?_; refine At_region ?_; refine s_mv ?_; refine AtR_nil ?_; refine At_block ?_; refine At_seq ?_; refine At_region ?_; refine s_eql ?_; refine s_as ?_; refine AtR_nil ?_; refine At_cond_f rfl ?_; refine At_seq ?_; refine At_region ?_; refine s_eql ?_; refine s_as ?_; refine AtR_nil ?_; refine At_cond_t rfl ?_; refine At_seq ?_; refine At_region ?_; refine s_fa ?_; refine s_ld ?_)
    refine s_call x_call (word_calls x.as_ _ (by omega)) ?_
    rintro _ w2 ⟨rfl, k2⟩
    refine ⟨_, rfl, ?_⟩
    (refine s_as ?_; refine AtR_nil ?_)
    refine At_ret1 Tryd.func18 rfl (by conv => lhs; whnf) ?_
    exact ⟨rfl, k1.trans k2⟩
  · replace hc : c = 66 := hc
    (refine s_as ?_; refine AtR_nil ?_; refine At_seq ?_; refine At_seq ?_; refine At_region ?_; refine s_mv ?_; refine AtR_nil ?_; refine At_block ?_; refine At_seq ?_; refine At_region ?_; refine s_eql ?_; refine s_as ?_; refine AtR_nil ?_; refine At_cond_f rfl ?_; refine At_seq ?_; refine At_region ?_; refine s_eql ?_; refine s_as ?_; refine AtR_nil ?_; refine At_cond_f rfl ?_; refine At_seq ?_; refine At_region ?_; refine s_eql ?_; refine s_as ?_; refine AtR_nil ?_; refine At_cond_t rfl ?_; refine At_seq ?_; refine At_region ?_; refine s_fa ?_; refine s_ld ?_)
    refine s_val (x_conv_bs rfl h.b) ?_
    refine s_call x_call (word_calls x.b _ (by omega)) ?_
    rintro _ w2 ⟨rfl, k2⟩
    refine ⟨_, rfl, ?_⟩
    (refine s_as ?_; refine AtR_nil ?_)
    refine At_ret1 Tryd.func18 rfl (by conv => lhs; whnf) ?_
    exact ⟨rfl, k1.trans k2⟩
  · replace hc : c = 76 := hc
    (refine s_as ?_; refine AtR_nil ?_; refine At_seq ?_; refine At_seq ?_; refine At_region ?_; refine s_mv ?_; refine AtR_nil ?_; refine At_block ?_; refine At_seq ?_; refine At_region ?_; refine s_eql ?_; refine s_as ?_; refine AtR_nil ?_; refine At_cond_f rfl ?_; refine At_seq ?_; refine At_region ?_; refine s_eql ?_; refine s_as ?_; refine AtR_nil ?_; refine At_cond_f rfl ?_; refine At_seq ?_; refine At_region ?_; refine s_eql ?_; refine s_as ?_; refine AtR_nil ?_; refine At_cond_f rfl ?_; refine At_seq ?_; refine At_region ?_; refine s_eql ?_; refine s_as ?_; refine AtR_nil ?_; refine At_cond_t rfl ?_; refine At_seq ?_; refine At_region ?_; refine s_fa ?_; refine s_ld ?_)
    refine s_call x_call (list_calls x.keep _ _ _ h.keep (by omega) h.each hT) ?_
    rintro _ w2 ⟨rfl, k2⟩
    refine ⟨_, rfl, ?_⟩
    (refine s_as ?_; refine AtR_nil ?_)
    refine At_ret1 Tryd.func18 rfl (by conv => lhs; whnf) ?_
    exact ⟨rfl, k1.trans k2⟩
  · replace hc : c = 78 := hc
    (refine s_as ?_; refine AtR_nil ?_; refine At_seq ?_; refine At_seq ?_; refine At_region ?_; refine s_mv ?_; refine AtR_nil ?_; refine At_block ?_; refine At_seq ?_; refine At_region ?_; refine s_eql ?_; refine s_as ?_; refine AtR_nil ?_; refine At_cond_f rfl ?_; refine At_seq ?_; refine At_region ?_; refine s_eql ?_; refine s_as ?_; refine AtR_nil ?_; refine At_cond_f rfl ?_; refine At_seq ?_; refine At_region ?_; refine s_eql ?_; refine s_as ?_; refine AtR_nil ?_; refine At_cond_f rfl ?_; refine At_seq ?_; refine At_region ?_; refine s_eql ?_; refine s_as ?_; refine AtR_nil ?_; refine At_cond_f rfl ?_; refine At_seq ?_; refine At_region ?_; refine s_eql ?_; refine s_as ?_; refine AtR_nil ?_; refine At_cond_t rfl ?_; refine At_seq ?_; refine At_region ?_; refine s_fa ?_; refine s_ld ?_)
    refine s_call x_call (itoa_calls x.n _ h.n hT) ?_
    rintro _ w2 ⟨rfl, k2⟩
    refine ⟨_, rfl, ?_⟩
    (refine s_as ?_; refine AtR_nil ?_)
    refine At_ret1 Tryd.func18 rfl (by conv => lhs; whnf) ?_
    exact ⟨rfl, k1.trans k2⟩
  · replace hc : c = 77 := hc
    (refine s_as ?_; refine AtR_nil ?_; refine At_seq ?_; refine At_seq ?_; refine At_region ?_; refine s_mv ?_; refine AtR_nil ?_; refine At_block ?_; refine At_seq ?_; refine At_region ?_; refine s_eql ?_; refine s_as ?_; refine AtR_nil ?_; refine At_cond_f rfl ?_; refine At_seq ?_; refine At_region ?_; refine s_eql ?_; refine s_as ?_; refine AtR_nil ?_; refine At_cond_f rfl ?_; refine At_seq ?_; refine At_region ?_; refine s_eql ?_; refine s_as ?_; refine AtR_nil ?_; refine At_cond_f rfl ?_; refine At_seq ?_; refine At_region ?_; refine s_eql ?_; refine s_as ?_; refine AtR_nil ?_; refine At_cond_f rfl ?_; refine At_seq ?_; refine At_region ?_; refine s_eql ?_; refine s_as ?_; refine AtR_nil ?_; refine At_cond_f rfl ?_; refine At_seq ?_; refine At_region ?_; refine s_eql ?_; refine s_as ?_; refine AtR_nil ?_; refine At_cond_t rfl ?_; refine At_seq ?_; refine At_region ?_; refine s_fa ?_; refine s_ld ?_)
    refine s_call x_call (itoa_calls x.m _ h.m hT) ?_
    rintro _ w2 ⟨rfl, k2⟩
    refine ⟨_, rfl, ?_⟩
    (refine s_as ?_; refine AtR_nil ?_)
    refine At_ret1 Tryd.func18 rfl (by conv => lhs; whnf) ?_
    exact ⟨rfl, k1.trans k2⟩
  · replace hc : c = 75 := hc
    (refine s_as ?_; refine AtR_nil ?_; refine At_seq ?_; refine At_seq ?_; refine At_region ?_; refine s_mv ?_; refine AtR_nil ?_; refine At_block ?_; refine At_seq ?_; refine At_region ?_; refine s_eql ?_; refine s_as ?_; refine AtR_nil ?_; refine At_cond_f rfl ?_; refine At_seq ?_; refine At_region ?_; refine s_eql ?_; refine s_as ?_; refine AtR_nil ?_; refine At_cond_f rfl ?_; refine At_seq ?_; refine At_region ?_; refine s_eql ?_; refine s_as ?_; refine AtR_nil ?_; refine At_cond_f rfl ?_; refine At_seq ?_; refine At_region ?_; refine s_eql ?_; refine s_as ?_; refine AtR_nil ?_; refine At_cond_f rfl ?_; refine At_seq ?_; refine At_region ?_; refine s_eql ?_; refine s_as ?_; refine AtR_nil ?_; refine At_cond_f rfl ?_; refine At_seq ?_; refine At_region ?_; refine s_eql ?_; refine s_as ?_; refine AtR_nil ?_; refine At_cond_f rfl ?_; refine At_skip ?_; refine At_inBlock ?_; refine At_seq ?_; refine At_region ?_; refine s_fa ?_; refine s_ld ?_)
    refine s_call x_call (itoa_calls x.k _ h.k hT) ?_
    rintro _ w2 ⟨rfl, k2⟩
    refine ⟨_, rfl, ?_⟩
    (refine s_as ?_; refine AtR_nil ?_)
    refine At_ret1 Tryd.func18 rfl (by conv => lhs; whnf) ?_
    exact ⟨rfl, k1.trans k2⟩
/-- A part's length. -/
theorem word_len (s : List UInt8) : (wordB s).length ≤ 3 * s.length + 1 := by
  unfold wordB
  split
  · simp
  · have := enc_le s
    omega
theorem listB_len (l : List Int) (h : ∀ n ∈ l, in64 n) : (listB l).length ≤ 41 * l.length + 1 := by
  unfold listB
  split
  · simp
  · cases l with
    | nil => simp [line]
    | cons a l =>
      rw [List.map_cons, line_len]
      have hsum : ∀ l : List Int, (∀ n ∈ l, in64 n) → sumL (l.map Lib.itoa) ≤ 40 * l.length := by
        intro l
        induction l with
        | nil => intro _; simp [sumL]
        | cons a l ih =>
          intro h
          have h1 := ih fun n hn => h n (List.mem_cons_of_mem _ hn)
          have h2 := Lib.itoa_length_le a (h a (List.mem_cons_self ..)).1 (h a (List.mem_cons_self ..)).2
          simp only [sumL, List.map_cons, List.sum_cons, List.length_cons] at h1 ⊢
          omega
      have := hsum (a :: l) h
      rw [List.map_cons] at this
      simp only [List.length_map, List.length_cons] at this ⊢
      omega
theorem part_len {w : World} {x : DeedC} {D : Nat → Prop} (h : DOk w x D) (hs : DSm x) (f : Fld) : (Sc.part x.plain f).length ≤ 20000 := by
  obtain ⟨hp, ha, hb, hk⟩ := hs
  cases f
  · have := word_len x.path; simp only [Sc.part, DeedC.plain]; omega
  · have := word_len x.as_; simp only [Sc.part, DeedC.plain]; omega
  · have := word_len x.b; simp only [Sc.part, DeedC.plain]; omega
  · have := listB_len x.keep h.each; simp only [Sc.part, DeedC.plain]; omega
  · have := Lib.itoa_length_le x.n h.n.1 h.n.2; simp only [Sc.part, DeedC.plain]; omega
  · have := Lib.itoa_length_le x.m h.m.1 h.m.2; simp only [Sc.part, DeedC.plain]; omega
  · have := Lib.itoa_length_le x.k h.k.1 h.k.2; simp only [Sc.part, DeedC.plain]; omega
end Go.Proofs.YtgobmphkakmdmaaDoor
