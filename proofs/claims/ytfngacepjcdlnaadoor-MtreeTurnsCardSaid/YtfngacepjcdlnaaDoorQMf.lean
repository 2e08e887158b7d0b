/- A region that draws its order: two operations that may come up, whatever they are; two variables laid and written. Own work; nothing of a program is named here. | Trees: the document's layout, pointers, seals. | Trees: the document's seal of a sector. -/
import Derived.Test.YtfngacepjcdlnaaDoorQMa
import Derived.Test.YtfngacepjcdlnaaDoorQMb
set_option linter.unusedVariables false
namespace Go.Kx
open Go
section
attribute [local semireducible] At AtR AtG Run AtH
variable {P : Program} {f : Fm} {n : Nat} {R : Ending → World → Prop} {k : List Item} {env : Env} {w : World} {S : World → Prop} {ops : Array Oper}
def OpH (P : Program) (f : Fm) (n : Nat) (R : Ending → World → Prop) (ops : Array Oper) (S : World → Prop) (k : List Item) (fuel : Nat) (listed : Array Bool) (env : Env) (w : World) (i : Nat) : Prop :=
 wpOp P ops (AtQ P f n R k) i (fun a' w' => S w' ∧ wpAnyH P .any ops (AtQ P f n R k) S fuel (listed.setIfInBounds i true) a' w') (mkF f n env) w
theorem OpH_val {fuel : Nat} {listed : Array Bool} {i : Nat} {o : Oper} {Q1 : Value → World → Prop} (hi : ops[i]? = some o) (gi : gsays ops n env o true) (hrun : ∃ v w1, Run P n env o w (.ok (.value v) w1) ∧ Q1 v w1)
  (k1 : ∀ v w1, Q1 v w1 → S w1 ∧ AtH P f n R ops S k fuel (listed.setIfInBounds i true) (updo env o.dst v) w1) : OpH P f n R ops S k fuel listed env w i := by
 obtain ⟨v, w1, r1, q1⟩ := hrun
 obtain ⟨s1, a1⟩ := k1 v w1 q1
 exact wpOp_val hi gi r1 s1 a1
theorem OpH_skip {fuel : Nat} {listed : Array Bool} {i : Nat} {o : Oper} {Q1 : World → Prop} (hi : ops[i]? = some o) (gi : gsays ops n env o true) (hrun : ∃ w1, Run P n env o w (.ok .skip w1) ∧ Q1 w1)
  (k1 : ∀ w1, Q1 w1 → S w1 ∧ AtH P f n R ops S k fuel (listed.setIfInBounds i true) (updo env o.dst undef) w1) : OpH P f n R ops S k fuel listed env w i := by
 obtain ⟨w1, r1, q1⟩ := hrun
 obtain ⟨s1, a1⟩ := k1 w1 q1
 unfold OpH wpOp
 simp only [hi]
 rw [if_pos (wanted_gsays gi)]
 refine .inl ?_
 unfold Run at r1
 unfold Oper.wp
 rw [eval_mkF, r1]
 simp only [Oper.upon, mkF_put]
 exact ⟨s1, a1⟩
theorem OpH_call {fuel : Nat} {listed : Array Bool} {i : Nat} {o : Oper} {gf : FuncId} {args : Array Value} {w' : World} {Q : Ending → World → Prop} (hi : ops[i]? = some o) (hg : gsays ops n env o true)
  (hrun : Run P n env o w (.ok (.enter gf args) w')) (hc : Calls P gf args w' Q)
  (h : ∀ e w'', Q e w'' → ∃ v, e = .returned v ∧ S w'' ∧ AtH P f n R ops S k fuel (listed.setIfInBounds i true) (updo env o.dst v) w'') : OpH P f n R ops S k fuel listed env w i :=
 wpOp_call hi hg hrun hc h
theorem AtH_two {fuel : Nat} {listed : Array Bool} (i j : Nat) (hr : (Region.ready .any ops listed == [i, j] || Region.ready .any ops listed == [j, i]) = true)
  (hi : OpH P f n R ops S k fuel listed env w i) (hj : OpH P f n R ops S k fuel listed env w j) : AtH P f n R ops S k (fuel + 1) listed env w := by
 have hall : ∀ l, l ∈ [i, j] → OpH P f n R ops S k fuel listed env w l := by
  intro l hl
  rcases List.mem_cons.1 hl with rfl | hl
  ·exact hi
  ·obtain rfl : l = j := by simpa using hl
   exact hj
 rcases Bool.or_eq_true_iff.1 hr with hr | hr
 ·exact wpAnyH_all (by simpa using hr) (by simp) hall
 ·exact wpAnyH_all (by simpa using hr) (by simp) fun l hl => hall l (by simpa [or_comm] using hl)
theorem AtH_one {fuel : Nat} {listed : Array Bool} (i : Nat) (hr : Region.ready .any ops listed = [i])
  (hi : OpH P f n R ops S k fuel listed env w i) : AtH P f n R ops S k (fuel + 1) listed env w := AtH_op i hr hi
theorem AtH_more {fuel : Nat} {listed : Array Bool} (S1 : World → Prop) (hs : ∀ w, S1 w → S w) (h : AtH P f n R ops S1 k fuel listed env w) : AtH P f n R ops S k fuel listed env w := by
 have key : ∀ (fuel : Nat) (listed : Array Bool) (a : Act) (w : World), wpAnyH P .any ops (AtQ P f n R k) S1 fuel listed a w → wpAnyH P .any ops (AtQ P f n R k) S fuel listed a w := by
  intro fuel
  induction fuel with
  | zero => exact fun _ _ _ h => h
  | succ fuel ih => exact fun _ _ _ h => ⟨h.1, fun i hi => wpOp_mono (fun a' w' h' => ⟨hs _ h'.1, ih _ a' w' h'.2⟩) (h.2 i hi)⟩
 exact key _ _ _ _ h
end
attribute [irreducible] OpH
theorem AtH_as {P : Program} {f : Fm} {n : Nat} {R : Ending → World → Prop} {k : List Item} {env env' : Env} {w : World} {S : World → Prop} {ops : Array Oper} {fuel : Nat} {listed listed' : Array Bool} (h : AtH P f n R ops S k fuel listed' env' w) (e : (listed == listed') = true) (e2 : env = env') : AtH P f n R ops S k fuel listed env w := by
 rw [eq_of_beq e, e2]; exact h
theorem upd_at (env : Env) (d : Nat) (v : Value) : upd env d v d = v := by unfold upd; simp
theorem upd_off (env : Env) {d i : Nat} (v : Value) (h : i ≠ d) : upd env d v i = env i := by
 unfold upd
 cases hb : Nat.beq i d with
 | true => exact absurd (Nat.eq_of_beq_eq_true hb) h
 | false => rfl
theorem ev_tmp {n : Nat} {env : Env} {t : Nat} {v : Value} (h : t < n) (e : env t = v) : ev n env (.tmp t) = v := by
 show (bif Nat.blt t n then env t else undef) = v
 rw [show Nat.blt t n = true from Nat.ble_eq_true_of_le h]; exact e
def duoOk (ops : Array Oper) (L : Array Bool) (iA iB jA jB : Nat) : Bool :=
 let s (l : Array Bool) (x : Nat) := l.setIfInBounds x true
 (Region.ready .any ops L == [iA, iB] || Region.ready .any ops L == [iB, iA]) && (Region.ready .any ops (s L iA) == [iB]) && (Region.ready .any ops (s L iB) == [iA])
  && (Region.ready .any ops (s (s L iA) iB) == [jA]) && (Region.ready .any ops (s (s L iB) iA) == [jA])
  && (Region.ready .any ops (s (s (s L iA) iB) jA) == [jB]) && (Region.ready .any ops (s (s (s L iB) iA) jA) == [jB])
  && (Region.ready .any ops (s (s (s (s L iA) iB) jA) jB)).isEmpty && (Region.ready .any ops (s (s (s (s L iB) iA) jA) jB)).isEmpty
theorem AtH_duo {P : Program} {f : Fm} {n : Nat} {R : Ending → World → Prop} {k : List Item} {env : Env} {w : World} {S : World → Prop} {ops : Array Oper} {fuel : Nat} {listed : Array Bool} (iA iB jA jB : Nat) {dA dB sA sB TA TB szA szB : Nat} {tA tB tA2 tB2 : TypeId} {pA pB pA2 pB2 : String} {aA aB aA2 aB2 : Array Edge} {zA zB : Value} {csA csB : List Value}
  [TZ P TA zA] [TZ P TB zB] [TSz P TA szA] [TSz P TB szB]
  (hA : ops[iA]? = some ⟨some dA, .alloc TA, tA, pA, aA, none⟩) (hB : ops[iB]? = some ⟨some dB, .alloc TB, tB, pB, aB, none⟩)
  (hA2 : ops[jA]? = some ⟨none, .store TA (.tmp dA) (.tmp sA), tA2, pA2, aA2, none⟩) (hB2 : ops[jB]? = some ⟨none, .store TB (.tmp dB) (.tmp sB), tB2, pB2, aB2, none⟩)
  (hd : duoOk ops listed iA iB jA jB = true) (hne : dA ≠ dB ∧ sA ≠ dA ∧ sA ≠ dB ∧ sB ≠ dA ∧ sB ≠ dB) (hn : dA < n ∧ dB < n ∧ sA < n ∧ sB < n) (eA : env sA = .agg csA.toArray) (eB : env sB = .agg csB.toArray)
  (lA : csA.length = szA) (lB : csB.length = szB) (lzA : zA.cells.size = szA) (lzB : zB.cells.size = szB) (oA : csA.all (·.oneCell') = true) (oB : csB.all (·.oneCell') = true) (hS : S w) (hSk : ∀ w', Kp No w w' → S w')
  (h : ∀ a b w', Blk w' a TA (0, 0) csA → Blk w' b TB (0, 0) csB → w.heap.size ≤ a → w.heap.size ≤ b → a ≠ b → Kp No w w' → At P f n R k (upd (upd env dA (.pointer (some ⟨a, 0, none⟩))) dB (.pointer (some ⟨b, 0, none⟩))) w') :
  AtH P f n R ops S k (fuel + 4) listed env w := by
 simp only [duoOk, Bool.and_eq_true] at hd
 obtain ⟨⟨⟨⟨⟨⟨⟨⟨d1, d2⟩, d3⟩, d4⟩, d5⟩, d6⟩, d7⟩, d8⟩, d9⟩ := hd
 obtain ⟨n1, n2, n3, n4, n5⟩ := hne
 obtain ⟨m1, m2, m3, m4⟩ := hn
 have store : ∀ {T : TypeId} {sz d sv : Nat} {t2 : TypeId} {p2 : String} {a2 : Array Edge} {cs cs0 : List Value} [TSz P T sz] {env' : Env} {w' : World} {b : Nat}, d < n → sv < n → env' d = .pointer (some ⟨b, 0, none⟩) → env' sv = .agg cs.toArray → Blk w' b T (0, 0) cs0 → cs.length = sz → cs0.length = sz → cs.all (·.oneCell') = true →
   ∃ w1, Run P n env' ⟨none, .store T (.tmp d) (.tmp sv), t2, p2, a2, none⟩ w' (.ok .skip w1) ∧ Eff w' w1 b (.cells cs.toArray T (0, 0)) :=
  fun hd hs e1 e2 hB l1 l2 o => r_store_all (ev_tmp hd e1) (ev_tmp hs e2) hB l1 l2 o
 have lA2 : zA.cells.toList.length = szA := by simpa using lzA
 have lB2 : zB.cells.toList.length = szB := by simpa using lzB
 have toA : ∀ (z : Value), z.cells = z.cells.toList.toArray := fun z => rfl
 have fin : ∀ {L' : Array Bool} {fuel' : Nat} {a b : Nat} {w' : World}, (Region.ready .any ops L').isEmpty = true → Blk w' a TA (0, 0) csA → Blk w' b TB (0, 0) csB → w.heap.size ≤ a → w.heap.size ≤ b → a ≠ b → Kp No w w' →
   AtH P f n R ops S k fuel' L' (upd (upd env dA (.pointer (some ⟨a, 0, none⟩))) dB (.pointer (some ⟨b, 0, none⟩))) w' := fun hr h1 h2 h3 h4 h5 h6 => AtH_done hr (h _ _ _ h1 h2 h3 h4 h5 h6)
 have both : ∀ {L' : Array Bool} {a b : Nat} {w' : World}, (Region.ready .any ops L' == [jA]) = true → (Region.ready .any ops (L'.setIfInBounds jA true) == [jB]) = true →
   (Region.ready .any ops ((L'.setIfInBounds jA true).setIfInBounds jB true)).isEmpty = true →
   Blk w' a TA (0, 0) zA.cells.toList → Blk w' b TB (0, 0) zB.cells.toList → w.heap.size ≤ a → w.heap.size ≤ b → a ≠ b → Kp No w w' →
   AtH P f n R ops S k (fuel + 2) L' (upd (upd env dA (.pointer (some ⟨a, 0, none⟩))) dB (.pointer (some ⟨b, 0, none⟩))) w' := by
  intro L' a b w' r0 r1 r2 hBa hBb ha hb hab K
  have gA : upd (upd env dA (.pointer (some ⟨a, 0, none⟩))) dB (.pointer (some ⟨b, 0, none⟩)) dA = .pointer (some ⟨a, 0, none⟩) := by rw [upd_off _ _ n1, upd_at]
  have gB : upd (upd env dA (.pointer (some ⟨a, 0, none⟩))) dB (.pointer (some ⟨b, 0, none⟩)) dB = .pointer (some ⟨b, 0, none⟩) := by rw [upd_at]
  have gsA : upd (upd env dA (.pointer (some ⟨a, 0, none⟩))) dB (.pointer (some ⟨b, 0, none⟩)) sA = .agg csA.toArray := by rw [upd_off _ _ n3, upd_off _ _ n2]; exact eA
  have gsB : upd (upd env dA (.pointer (some ⟨a, 0, none⟩))) dB (.pointer (some ⟨b, 0, none⟩)) sB = .agg csB.toArray := by rw [upd_off _ _ n5, upd_off _ _ n4]; exact eB
  refine AtH_one jA (by simpa using r0) (OpH_skip hA2 rfl (store m1 m3 gA gsA hBa lA lA2 oA) fun w1 e1 => ?_)
  have k1 : Kp (fun j => j = a) w' w1 := e1.kp (.inl rfl)
  have K1 := K.trans' k1 (by rintro j rfl; right; exact ha)
  have hBb1 := hBb.kp k1 (Ne.symm hab)
  refine ⟨hSk _ K1, AtH_one jB (by simpa using r1) (OpH_skip hB2 rfl (store m2 m4 gB gsB hBb1 lB lB2 oB) fun w2 e2 => ?_)⟩
  have k2 : Kp (fun j => j = b) w1 w2 := e2.kp (.inl rfl)
  have K2 := K1.trans' k2 (by rintro j rfl; right; exact hb)
  exact ⟨hSk _ K2, fin r2 (Blk.kp e1.blk k2 hab) e2.blk ha hb hab K2⟩
 refine AtH_two iA iB d1 ?_ ?_
 ·refine OpH_val hA rfl r_alloc ?_
  rintro _ w1 ⟨a, rfl, ha, e1⟩
  have hBa : Blk w1 a TA (0, 0) zA.cells.toList := e1.blk
  have k1 : Kp No w w1 := e1.kp (.inr (by omega))
  have la := hBa.lt
  have z1 := k1.size
  refine ⟨hSk _ k1, AtH_one iB (by simpa using d2) (OpH_val hB rfl r_alloc ?_)⟩
  rintro _ w2 ⟨b, rfl, hb, e2⟩
  have hBb : Blk w2 b TB (0, 0) zB.cells.toList := e2.blk
  have k2 : Kp No w1 w2 := e2.kp (.inr (by omega))
  have K2 := k1.trans k2
  exact ⟨hSk _ K2, both d4 d6 d8 (hBa.kp k2 fun h => h) hBb (by omega) (by omega) (by omega) K2⟩
 ·refine OpH_val hB rfl r_alloc ?_
  rintro _ w1 ⟨b, rfl, hb, e1⟩
  have hBb : Blk w1 b TB (0, 0) zB.cells.toList := e1.blk
  have k1 : Kp No w w1 := e1.kp (.inr (by omega))
  have lb := hBb.lt
  have z1 := k1.size
  refine ⟨hSk _ k1, AtH_one iA (by simpa using d3) (OpH_val hA rfl r_alloc ?_)⟩
  rintro _ w2 ⟨a, rfl, ha, e2⟩
  have hBa : Blk w2 a TA (0, 0) zA.cells.toList := e2.blk
  have k2 : Kp No w1 w2 := e2.kp (.inr (by omega))
  have K2 := k1.trans k2
  refine ⟨hSk _ K2, ?_⟩
  show AtH P f n R ops S k (fuel + 2) _ (upd (upd env dB (.pointer (some ⟨b, 0, none⟩))) dA (.pointer (some ⟨a, 0, none⟩))) w2
  rw [upd_comm env (Ne.symm n1)]
  exact both d5 d7 d9 hBa (hBb.kp k2 fun h => h) (by omega) (by omega) (by omega) K2
end Go.Kx
namespace Go.Mt
open Go Go.Kx Go.Proofs.YtfngacepjcdlnaaDoor
theorem layN_succ (n i : Nat) : layN n (i + 1) = UInt8.ofNat (n / 256 ^ i % 256) :: layN n i := by
 unfold layN
 rw [List.range_succ_eq_map, List.map_cons, List.map_map]
 congr 1
 ·rw [Nat.add_sub_cancel, Nat.sub_zero, Nat.pow_mul]
  apply UInt8.toNat_inj.1
  simp
 ·apply List.map_congr_left
  intro p hp
  have := List.mem_range.1 hp
  simp only [Function.comp]
  rw [show i + 1 - 1 - Nat.succ p = i - 1 - p by omega]
end Go.Mt
namespace Go.Proofs.YtfngacepjcdlnaaDoor
open Go Go.Kx Go.Kr Go.Mt
theorem u64_nat {x : Nat} (h : x < 18446744073709551616) : IntKind.u64.wrap (x : Int) = (x : Int) := by rw [wrap_u64]; omega
set_option maxRecDepth 100000 in
set_option maxHeartbeats 4000000 in
theorem layR_calls (m size : Nat) (w : World) (hm : m < 9223372036854775808) (hs : size ≤ 8) :
  Calls Tryd.prog 76 #[.int .i64 (m : Int), .int .i64 (size : Int)] w fun e w' => ∃ a cap, e = .returned (.slice a size cap) ∧ Own w' 5 1 a size cap (ints .u8 (bs8 (layN m size))) ∧ (∀ j, blkOf a j → w.heap.size ≤ j) ∧ Kp No w w' := by
 refine calls_at (n := 26) Tryd.func76 rfl rfl (by simp) ?_
 (refine At_seq (At_region ?_); refine s_as ?_; refine AtR_nil (At_seq (At_seq (At_region ?_))); refine s_mv ?_; refine s_gtr ?_; refine AtR_nil ?_; refine At_cond_f rfl ?_; refine At_skip (At_seq (At_region ?_)); refine s_mv ?_; refine s_cv ?_; refine s_as ?_; refine AtR_nil (At_seq (At_region ?_)); refine s_as ?_; refine AtR_nil (At_seq (At_seq (At_region ?_))); refine s_as ?_; refine AtR_nil (At_block ?_))
 rw [u64_nat (by omega)]
 skip
 refine At_while (fun s : Nat × Option Addr × Nat => [(1, .int .i64 (size : Int)), (5, .int .u64 ((m / 256 ^ s.1 : Nat) : Int)), (6, .slice s.2.1 s.1 s.2.2), (7, .int .i64 (s.1 : Int))])
  (fun s w' => s.1 ≤ size ∧ Own w' 5 1 s.2.1 s.1 s.2.2 (ints .u8 (bs8 (layN m s.1))) ∧ (∀ j, blkOf s.2.1 j → w.heap.size ≤ j) ∧ Kp No w w') (fun s => size - s.1) (0, none, 0) ⟨rfl, by rw [Nat.pow_zero, Nat.div_one]; rfl, rfl, rfl, trivial⟩
  ⟨by omega, Own.nil _ _ _, fun j hj => by simp [blkOf] at hj, Kp.refl _ _⟩ ?_
 rintro ⟨i, a, cap⟩ w1 junk ⟨hi, ho, hf, K⟩ again
 simp only at hi ho hf again ⊢
 by_cases hlt : i < size
 ·have hle : m / 256 ^ i ≤ m := Nat.div_le_self _ _
  have hq1 : m / 256 ^ (i + 1) = m / 256 ^ i / 256 := by rw [Nat.pow_succ, ← Nat.div_div_eq_div_mul]
  have hls : layN m (i + 1) = UInt8.ofNat (m / 256 ^ i % 256) :: layN m i := layN_succ m i
  generalize m / 256 ^ i = q at *
  (refine At_seq (At_seq (At_region ?_)); refine s_mv ?_; refine s_mv ?_; refine s_lss ?_; refine AtR_nil ?_; refine At_cond_t rfl ?_; refine At_skip (At_seq (At_block (At_seq (At_region ?_)))); refine s_mv ?_)
  refine s_val (x_remI rfl rfl (by omega) (by omega)) ?_
  rw [show (q : Int) % 256 = ((q % 256 : Nat) : Int) by omega]
  refine s_val (x_conv_i8 rfl) ?_
  refine AtR_go rfl (AtG_buildSlice1 (ops := [_]) rfl rfl (by omega) rfl rfl rfl fun b2 w2 hb2 e2 => ?_)
  have B2 : Blk w2 b2 5 (0, 0) (ints .u8 (bs8 [UInt8.ofNat (q % 256)])) := e2.blk
  have k2 : Kp No w1 w2 := e2.kp (.inr (by omega))
  have o2 : Own w2 5 1 (some ⟨b2, 0, none⟩) 1 1 (ints .u8 (bs8 [UInt8.ofNat (q % 256)])) := Blk.own B2 rfl (by simp only [maxLen]; omega)
  have h2 := ho.kp k2 fun _ _ h => h
  clear e2
  (refine s_mv ?_)
  refine AtR_go rfl (AtG_append (tx := 31) (s := 1) rfl rfl o2 (h2.sl.src rfl) rfl (by omega) (by simp only [maxLen]; omega) (by omega) fun a3 c3 w3 ho3 k3 hf3 => ?_)
  have z1 := K.size
  have z2 := k2.size
  have hk3 : Kp No w w3 := (K.trans k2).trans' k3 (by rintro j hj; simp [blkOf] at hj; subst hj; right; omega)
  (refine s_as ?_; refine AtR_nil (At_region ?_); refine s_mv ?_)
  refine s_val (x_quo rfl rfl (by omega)) ?_
  rw [Int.tdiv_eq_ediv_of_nonneg (by omega), show (q : Int) / 256 = ((m / 256 ^ (i + 1) : Nat) : Int) by rw [hq1]; omega, u64_nat (by rw [hq1]; omega)]
  (refine s_as ?_; refine AtR_nil (At_inBlock (At_region ?_)); refine s_mv ?_; refine s_ad ?_; refine s_as ?_; refine AtR_nil ?_)
  refine again (i + 1, a3, c3) _ _ ⟨rfl, rfl, by show Value.slice _ _ _ = _; rw [Nat.add_comm], rfl, trivial⟩ ⟨hlt, ?_, ?_, hk3⟩ (by simp only; omega)
  ·refine own_eq ho3 ?_ (Nat.add_comm 1 i)
   rw [hls]; simp [ints, bs8]
  ·intro j hj
   rcases hf3 with rfl | ⟨b, rfl, hb⟩
   ·simp [blkOf] at hj; omega
   ·simp [blkOf] at hj; omega
 have hie : i = size := by omega
 clear again
 subst hie
 (refine At_seq (At_seq (At_region ?_)); refine s_mv ?_; refine s_mv ?_; refine s_lss ?_; refine AtR_nil ?_; refine At_cond_f rfl ?_; refine At_exit rfl ?_; refine At_seq (At_region ?_); refine s_mv ?_; refine s_as ?_; refine AtR_nil ?_)
 refine At_ret1 Tryd.func76 rfl (by conv => lhs; whnf) ?_
 exact ⟨a, cap, rfl, ho, hf, K⟩
set_option maxRecDepth 100000 in
set_option maxHeartbeats 4000000 in
theorem packR_calls (p : Pr) (w : World) (hp : p.wf) :
  Calls Tryd.prog 28 #[.agg (prC p).toArray] w fun e w' => e = .returned (strV (packB p)) ∧ Kp No w w' := by
 refine calls_at (n := 11) Tryd.func28 rfl rfl (by simp) ?_
 have hpm := hp.mac
 have hps := hp.sec
 (refine At_seq (At_region ?_))
 refine AtR_go rfl (AtG_box rfl fun b w1 hb e1 => ?_)
 have B1 : Blk w1 b 38 (0, 0) (.int .i64 (p.sec : Int) :: ints .u8 (bs8 p.mac)) := e1.blk
 have K1 : Kp No w w1 := e1.kp (.inr (by omega))
 clear e1
 (refine s_as ?_; refine AtR_nil (At_seq ?_))
 have kd := Kp.drew (S := No) (w := w1)
 let S : World → Prop := fun w' => Blk w' b 38 (0, 0) (.int .i64 (p.sec : Int) :: ints .u8 (bs8 p.mac))
 have hS : S w1.drew := B1.kp kd fun h => h
 have hsl : ∀ {w'}, S w' → SlE w' .u8 (some ⟨b, 1, none⟩) 32 32 (bs8 p.mac) (fun _ => True) := fun hB => ⟨by simp [hpm], Nat.le_refl _, by omega, .inr ⟨b, 1, rfl, Blk.lt hB, trivial, fun j hj => by rw [Blk.cell hB, Nat.add_comm 1, List.getElem?_cons_succ]⟩⟩
 refine At_draw S rfl ?_
 (apply AtH_take 0 rfl (by decide +kernel) (by exact rfl); (focus (intro wx hx; skip; exact x_fieldAddrN rfl (by first | exact Nat.zero_add _ | exact Nat.add_zero _ | (simp only [Nat.reduceAdd] <;> rfl) | exact rfl))); (focus (exact hS)))
 (apply AtH_take 4 rfl (by decide +kernel) (by exact rfl); (focus (intro wx hx; skip; exact x_fieldAddrN rfl (by first | exact Nat.zero_add _ | exact Nat.add_zero _ | (simp only [Nat.reduceAdd] <;> rfl) | exact rfl))); (focus (exact hS)))
 refine AtH_take 1 rfl (by decide +kernel) (by exact rfl) (fun wx hx => x_load1 rfl hx rfl) hS ?_
 refine AtH_take 5 rfl (by decide +kernel) (by exact rfl) (fun wx hx => x_slice_arr rfl) hS ?_
 refine AtH_take 6 rfl (by decide +kernel) (by exact rfl) (fun wx hx => x_conv_bs rfl (hsl hx)) hS ?_
 refine AtH_call 2 rfl (by decide +kernel) (by exact rfl) x_call  (layR_calls p.sec 4 _ hp.sec (by omega)) ?_
 rintro _ w2 ⟨a, cap, rfl, ho, hf, k2⟩
 refine ⟨_, rfl, hS.kp k2 fun h => h, ?_⟩
 replace hS : S w2 := hS.kp k2 fun h => h
 refine AtH_val 3 rfl (by decide +kernel) (by exact rfl) (x_conv_bs rfl (ho.sl.e (D := fun _ => True) fun _ _ => trivial)) hS ?_
 refine AtH_val 7 rfl (by decide +kernel) (by exact rfl) (x_cat rfl rfl (by simp [layN_length, hpm])) hS ?_
 (apply AtH_take 8 rfl (by decide +kernel) (by exact rfl); (focus (intro wx hx; skip; exact x_assign (by conv => lhs; whnf))); (focus (exact hS)))
 refine AtH_done (by decide +kernel) ?_
 skip
 refine At_ret1 Tryd.func28 rfl (by conv => lhs; whnf) ?_
 exact ⟨rfl, (K1.trans kd).trans k2⟩
end Go.Proofs.YtfngacepjcdlnaaDoor
namespace Go.Proofs.YtfngacepjcdlnaaDoor
open Go Go.Kx Go.Kr Go.Mt
set_option maxRecDepth 100000 in
set_option maxHeartbeats 8000000 in
theorem macR_calls (key name : List UInt8) (lv fst : Nat) (b : List UInt8) (ak an : Option Addr) (ck cn : Nat) (w : World) {D D' : Nat → Prop} (hk : SlE w .u8 ak key.length ck (bs8 key) D) (hn : SlE w .u8 an name.length cn (bs8 name) D') (hl : key.length ≤ 1000 ∧ name.length ≤ 1000 ∧ b.length ≤ 100000) (hlv : lv ≤ 1000 ∧ fst ≤ 1000000) :
  Calls Tryd.prog 27 #[.slice ak key.length ck, .slice an name.length cn, .agg (spC lv fst).toArray, strV b] w fun e w' => e = .returned (strV (macB key name lv fst b)) ∧ Kp No w w' := by
 refine calls_at (n := 38) Tryd.func27 rfl rfl (by simp) ?_
 obtain ⟨hl1, hl2, hl3⟩ := hl
 obtain ⟨hv1, hv2⟩ := hlv
 (refine At_seq (At_region ?_))
 refine AtR_go rfl (AtG_box rfl fun b6 w1 hb6 e1 => ?_)
 have B6 : Blk w1 b6 58 (0, 0) [.int .i64 (lv : Int), .int .i64 (fst : Int)] := e1.blk
 have k1 : Kp No w w1 := e1.kp (.inr (by omega))
 clear e1
 (refine s_as ?_; refine AtR_nil (At_seq ?_); refine At_region ?_)
 refine s_val (x_build (by first | rfl | exact rfl) built145) ?_
 refine AtR_go rfl (AtG_box rfl fun b9 w2 hb9 e2 => ?_)
 have B9 : Blk w2 b9 145 (0, 0) (.bool false :: [.slice none 0 0, .slice none 0 0, .slice none 0 0, .bool false, .int .i64 0, .int .i64 0, .slice none 0 0]) := e2.blk
 have k2 : Kp No w1 w2 := e2.kp (.inr (by omega))
 clear e2
 have K2 := k1.trans k2
 (refine s_as ?_; refine AtR_nil (At_seq ?_))
 have kd := Kp.drew (S := No) (w := w2)
 have KD := K2.trans kd
 let S : World → Prop := fun w' => Blk w' b6 58 (0, 0) [.int .i64 (lv : Int), .int .i64 (fst : Int)] ∧ SlE w' .u8 an name.length cn (bs8 name) D'
 have hSk : ∀ {w w'}, S w → Kp No w w' → S w' := fun h k => ⟨h.1.kp k fun h => h, h.2.kpn k⟩
 have hS : S w2.drew := hSk (w := w2) ⟨B6.kp k2 fun h => h, hn.kpn K2⟩ kd
 refine At_draw S rfl ?_
 (apply AtH_take 0 rfl (by decide +kernel) (by exact rfl); (focus (intro wx hx; skip; exact x_move (by conv => lhs; whnf))); (focus (exact hS)))
 (apply AtH_take 1 rfl (by decide +kernel) (by exact rfl); (focus (intro wx hx; skip; exact x_len_slice rfl)); (focus (exact hS)))
 (apply AtH_take 4 rfl (by decide +kernel) (by exact rfl); (focus (intro wx hx; skip; exact x_move (by conv => lhs; whnf))); (focus (exact hS)))
 (apply AtH_take 7 rfl (by decide +kernel) (by exact rfl); (focus (intro wx hx; skip; exact x_indexAddrI rfl rfl (by omega) (by omega))); (focus (exact hS)))
 (apply AtH_take 12 rfl (by decide +kernel) (by exact rfl); (focus (intro wx hx; skip; exact x_indexAddrI rfl rfl (by omega) (by omega))); (focus (exact hS)))
 (apply AtH_take 17 rfl (by decide +kernel) (by exact rfl); (focus (intro wx hx; skip; exact x_move (by conv => lhs; whnf))); (focus (exact hS)))
 refine AtH_take 5 rfl (by decide +kernel) (by exact rfl) (fun wx hx => x_conv_bs rfl hx.2) hS ?_
 refine AtH_take 8 rfl (by decide +kernel) (by exact rfl) (fun wx hx => x_load1 rfl hx.1 rfl) hS ?_
 refine AtH_take 13 rfl (by decide +kernel) (by exact rfl) (fun wx hx => x_load1 rfl hx.1 rfl) hS ?_
 have own1 : ∀ {w' : World} {a : Option Addr} {m c : Nat} {l : List UInt8}, Own w' 5 1 a m c (ints .u8 (bs8 l)) → SlE w' .u8 a m c (bs8 l) (fun _ => True) := fun h => h.sl.e fun _ _ => trivial
 refine AtH_call 2 rfl (by decide +kernel) (by exact rfl) x_call  (layR_calls name.length 2 _ (by omega) (by omega)) ?_
 rintro _ w3 ⟨a3, c3, rfl, ho3, hf3, k3⟩
 refine ⟨_, rfl, hSk hS k3, ?_⟩
 let S2 : World → Prop := fun w' => S w' ∧ Own w' 5 1 a3 2 c3 (ints .u8 (bs8 (layN name.length 2)))
 have hSk2 : ∀ {w w'}, S2 w → Kp No w w' → S2 w' := fun h k => ⟨hSk h.1 k, h.2.kp k fun _ _ h => h⟩
 refine AtH_more S2 (fun _ h => h.1) ?_
 have hS2 : S2 w3 := ⟨hSk hS k3, ho3⟩
 clear hS
 have hS := hS2
 refine AtH_take 3 rfl (by decide +kernel) (by exact rfl) (fun wx hx => x_conv_bs rfl (own1 hx.2)) hS ?_
 refine AtH_take 6 rfl (by decide +kernel) (by exact rfl) (fun wx hx => x_cat rfl rfl (by rw [layN_length]; omega)) hS ?_
 refine AtH_call 9 rfl (by decide +kernel) (by exact rfl) x_call  (layR_calls lv 1 _ (by omega) (by omega)) ?_
 rintro _ w4 ⟨a4, c4, rfl, ho4, hf4, k4⟩
 refine ⟨_, rfl, hSk2 hS k4, ?_⟩
 let S3 : World → Prop := fun w' => S2 w' ∧ Own w' 5 1 a4 1 c4 (ints .u8 (bs8 (layN lv 1)))
 have hSk3 : ∀ {w w'}, S3 w → Kp No w w' → S3 w' := fun h k => ⟨hSk2 h.1 k, h.2.kp k fun _ _ h => h⟩
 refine AtH_more S3 (fun _ h => h.1) ?_
 have hS3 : S3 w4 := ⟨hSk2 hS k4, ho4⟩
 clear hS hS2
 have hS := hS3
 refine AtH_take 10 rfl (by decide +kernel) (by exact rfl) (fun wx hx => x_conv_bs rfl (own1 hx.2)) hS ?_
 refine AtH_take 11 rfl (by decide +kernel) (by exact rfl) (fun wx hx => x_cat rfl rfl (by simp only [List.length_append, layN_length]; omega)) hS ?_
 refine AtH_call 14 rfl (by decide +kernel) (by exact rfl) x_call  (layR_calls fst 8 _ (by omega) (by omega)) ?_
 rintro _ w5 ⟨a5, c5, rfl, ho5, hf5, k5⟩
 refine ⟨_, rfl, hSk3 hS k5, ?_⟩
 let S4 : World → Prop := fun w' => S3 w' ∧ Own w' 5 1 a5 8 c5 (ints .u8 (bs8 (layN fst 8)))
 refine AtH_more S4 (fun _ h => h.1) ?_
 have hS4 : S4 w5 := ⟨hSk3 hS k5, ho5⟩
 clear hS hS3
 have hS := hS4
 refine AtH_take 15 rfl (by decide +kernel) (by exact rfl) (fun wx hx => x_conv_bs rfl (own1 hx.2)) hS ?_
 refine AtH_take 16 rfl (by decide +kernel) (by exact rfl) (fun wx hx => x_cat rfl rfl (by simp only [List.length_append, layN_length]; omega)) hS ?_
 refine AtH_take 18 rfl (by decide +kernel) (by exact rfl) (fun wx hx => x_cat rfl rfl (by simp only [List.length_append, layN_length]; omega)) hS ?_
 (apply AtH_take 19 rfl (by decide +kernel) (by exact rfl); (focus (intro wx hx; skip; exact x_assign (by conv => lhs; whnf))); (focus (exact hS)))
 refine AtH_done (by decide +kernel) ?_
 have K5 := ((KD.trans k3).trans k4).trans k5
 have B9' := (B9.kp kd fun h => h).kp ((k3.trans k4).trans k5) fun h => h
 (refine At_seq (At_region ?_); refine s_mv ?_; refine s_mv ?_; refine s_mv ?_)
 refine AtR_go rfl (G_val (r_conv_sb rfl (by simp only [List.length_append, layN_length, maxLen]; omega)) ?_)
 rintro _ w6 ⟨b6', c6, rfl, hb6', hsl, k6⟩
 skip
 refine s_call x_call (sealR_calls b9 key _ _ _ _ _ _ _ _ (B9'.kp k6 fun h => h) ((hk.kpn K5).kpn k6) (hsl.e (D := fun _ => True) fun _ _ => trivial) (by omega) (by simp only [List.length_append, layN_length]; omega)) ?_
 rintro _ w7 ⟨rfl, k7⟩
 refine ⟨_, rfl, ?_⟩
 refine s_val (x_slice_str_h (m := 32) rfl rfl (by rw [hmac_length]; omega)) ?_
 (refine s_as ?_; refine AtR_nil ?_)
 refine At_ret1 Tryd.func27 rfl (by conv => lhs; whnf) ?_
 exact ⟨rfl, (K5.trans k6).trans k7⟩
end Go.Proofs.YtfngacepjcdlnaaDoor
