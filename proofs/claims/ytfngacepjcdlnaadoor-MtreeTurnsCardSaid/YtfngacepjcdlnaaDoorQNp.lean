/- Trees, plainly: a tree beside the document's list of blocks. Own work. | Trees: the document's Put of a block, of lists by numbers of any kind. | Trees: the law's same: what a tree tells is what the document says. -/
import Derived.Test.YtfngacepjcdlnaaDoorQPm
import Derived.Test.YtfngacepjcdlnaaDoorQMi
import Derived.Test.YtfngacepjcdlnaaDoorQMh
set_option linter.unusedVariables false
namespace Go.Mt
open Go Go.Kx Go.Proofs.YtfngacepjcdlnaaDoor
theorem Bl.get {l : BlL} {f : Nat → Option (List UInt8)} (h : Bl l f) (i : Nat) : getL l (i : Int) = f i := by
 unfold getL
 cases hf : l.find? (fun e => decide ((e.1 : Int) = (i : Int))) with
 | none =>
  cases hi : f i with
  | none => rfl
  | some b =>
   have := List.find?_eq_none.1 hf _ ((h.mem i b).2 hi)
   simp at this
 | some e =>
  have h1 := List.find?_some hf
  have h2 := List.mem_of_find?_eq_some hf
  simp only [decide_eq_true_eq] at h1
  obtain ⟨j, b⟩ := e
  simp only at h1
  obtain rfl : j = i := by omega
  exact ((h.mem j b).1 h2).symm
structure Ttold (key name : List UInt8) (st : St) (r : Pr) (d : Nat) (l : BlL) (R n : Nat) : Prop where
 ex : ∃ f S, Tree key name st r d f S ∧ Bl l f ∧ Held st S
 room : st.room = R
 cnt : st.count ≤ R
 len : st.b.length ≤ n * R
theorem told_new (key name : List UInt8) (R : Nat) : Ttold key name (St.new R) Pr.zero 0 [] R 0 := by
 refine ⟨⟨fun _ => none, [], tree_nil key name _, bl_nil, held_new R⟩, rfl, ?_, by simp [St.new]⟩
 rw [(held_new R).count]; simp
theorem Ttold.need {key name : List UInt8} {st : St} {r : Pr} {d : Nat} {l : BlL} {f : Nat → Option (List UInt8)} {S : List Nat} (ht : Tree key name st r d f S) (hb : Bl l f) : l.length + totF (l.map Prod.fst) d = S.length := by
 have h1 := totF_tot (xs := l.map Prod.fst) (List.pairwise_map.2 hb.ord) d
 rw [List.length_map] at h1
 rw [h1, hb.count ht.out, ht.rep.len]
theorem Ttold.keys {key name : List UInt8} {st : St} {r : Pr} {d : Nat} {l : BlL} {f : Nat → Option (List UInt8)} {S : List Nat} (ht : Tree key name st r d f S) (hb : Bl l f) : ∀ e ∈ l, e.1 < 537824 := by
 rintro ⟨j, b⟩ he
 have hf := (hb.mem j b).1 he
 have h5 := roomN_le ht.le
 by_cases hlt : j < roomN d
 ·simp only; omega
 ·rw [ht.out j (by omega)] at hf; cases hf
theorem Ttold.few {key name : List UInt8} {st : St} {r : Pr} {d : Nat} {l : BlL} {R n : Nat} (h : Ttold key name st r d l R n) : l.length ≤ R ∧ d ≤ 5 ∧ ∀ e ∈ l, e.1 < 537824 := by
 obtain ⟨f, S, ht, hb, hH⟩ := h.ex
 have h1 := Ttold.need ht hb
 have h2 := hH.count
 have h3 := h.cnt
 exact ⟨by omega, ht.le, Ttold.keys ht hb⟩
theorem Ttold.mono {key name : List UInt8} {st : St} {r : Pr} {d : Nat} {l : BlL} {R n m : Nat} (h : Ttold key name st r d l R n) (hm : n ≤ m) : Ttold key name st r d l R m :=
 ⟨h.ex, h.room, h.cnt, Nat.le_trans h.len (Nat.mul_le_mul_right R hm)⟩
theorem Ttold.done {key name : List UInt8} {st st2 : St} {r r2 : Pr} {d d2 cd : Nat} {l l2 : BlL} {f f2 : Nat → Option (List UInt8)} {S : List Nat} {R n : Nat} (h : Ttold key name st r d l R n) (ht : Tree key name st r d f S) (hb : Bl l f) (hH : Held st S) (hb2 : Bl l2 f2) (hd : Done key name st S [] f2 r2 d2 cd st2) :
  (cd = 0 ∧ Ttold key name st2 r2 d2 l2 R (n + 1)) ∨ (cd = 12 ∧ Ttold key name st2 r d l R (n + 1)) := by
 have hl : st2.b.length ≤ (n + 1) * R := by
  have h1 := hd.len
  have h2 := h.len
  rw [h.room] at h1
  rw [Nat.add_mul, Nat.one_mul]
  omega
 have hr := hd.room
 have hc := hd.cnt
 rw [h.room] at hr hc
 rcases hd.res with ⟨rfl, S', h1, h2⟩ | ⟨rfl, h1, h2⟩
 ·exact .inl ⟨rfl, ⟨f2, S', h1, hb2, by simpa using h2⟩, hr, hc, hl⟩
 ·exact .inr ⟨rfl, ⟨f, S, ht.sub fun n _ b hb => h2 n b hb, hb, by simpa using h1⟩, hr, hc, hl⟩
theorem Ttold.put {key name : List UInt8} {st : St} {r : Pr} {d : Nat} {l : BlL} {R n k : Nat} (h : Ttold key name st r d l R n) (b : List UInt8) (hk : k < roomN 5) (hn : n * R ≤ 300000) :
  ((putT key name st r d k b).1.2.2 = 0 ∧ Ttold key name (putS key name st r d k b) (putT key name st r d k b).1.1 (putT key name st r d k b).1.2.1 (putF l k b) R (n + 1)) ∨ ((putT key name st r d k b).1.2.2 = 12 ∧ Ttold key name (putS key name st r d k b) r d l R (n + 1)) := by
 obtain ⟨f, S, ht, hb, hH⟩ := h.ex
 have hlen := h.len
 exact h.done ht hb hH (hb.put k b) (putT_done (X := []) ht (by simpa using hH) hk (by rw [h.room]; exact h.cnt) (by omega))
theorem Ttold.cut {key name : List UInt8} {st : St} {r : Pr} {d : Nat} {l : BlL} {R n k : Nat} (h : Ttold key name st r d l R n) (hn : n * R ≤ 300000) :
  ((cutT key name st r d k).1.2 = 0 ∧ Ttold key name (cutS key name st r d k) (cutT key name st r d k).1.1 d (l.filter (cutLF (k : Int))) R (n + 1)) ∨ ((cutT key name st r d k).1.2 = 12 ∧ Ttold key name (cutS key name st r d k) r d l R (n + 1)) := by
 obtain ⟨f, S, ht, hb, hH⟩ := h.ex
 have hlen := h.len
 have hf : l.filter (cutLF (k : Int)) = l.filter fun e => decide (e.1 < k) := List.filter_congr fun x _ => by unfold cutLF; apply decide_eq_decide.2; omega
 rw [hf]
 exact h.done ht hb hH (hb.cut k) (cutT_rep (X := []) ht (by simpa using hH) (by rw [h.room]; exact h.cnt) (by omega))
theorem Ttold.getT {key name : List UInt8} {st : St} {r : Pr} {d : Nat} {l : BlL} {R n : Nat} (h : Ttold key name st r d l R n) (i : Nat) : getT key name st r (d : Int) (i : Int) = (0, getL l (i : Int)) := by
 obtain ⟨f, S, ht, hb, hH⟩ := h.ex
 rw [ht.getT i, hb.get i]
theorem Ttold.secT {key name : List UInt8} {st : St} {r : Pr} {d : Nat} {l : BlL} {R n : Nat} (h : Ttold key name st r d l R n) : (secT key name st r (d : Int)).1 = 0 ∧ (secT key name st r (d : Int)).2.length = l.length + totF (l.map Prod.fst) d ∧ st.count = l.length + totF (l.map Prod.fst) d := by
 obtain ⟨f, S, ht, hb, hH⟩ := h.ex
 rw [ht.secT, Ttold.need ht hb, hH.count]
 exact ⟨rfl, rfl, rfl⟩
abbrev BiL := List (Int × List UInt8)
def biC (l : BiL) : List Value := l.flatMap fun e => [.int .i64 e.1, strV e.2]
def toI (l : BlL) : BiL := l.map fun e => ((e.1 : Int), e.2)
theorem toI_length (l : BlL) : (toI l).length = l.length := List.length_map _
theorem blC_toI (l : BlL) : blC l = biC (toI l) := by unfold blC biC toI; rw [List.flatMap_map]
theorem biC_length (l : BiL) : (biC l).length = l.length * 2 := by
 induction l with
 | nil => rfl
 | cons e l ih => rw [show biC (e :: l) = [.int .i64 e.1, strV e.2] ++ biC l from rfl, List.length_append, ih, List.length_cons]; simp; omega
theorem biC_get : ∀ {l : BiL} {i : Nat} (h : i < l.length), (biC l)[i * 2]? = some (.int .i64 l[i].1) ∧ (biC l)[i * 2 + 1]? = some (strV l[i].2)
 | [], i, h => by simp at h
 | e :: l, 0, h => ⟨rfl, rfl⟩
 | e :: l, i + 1, h => by
  have ih := biC_get (l := l) (i := i) (by simpa using h)
  rw [show biC (e :: l) = [.int .i64 e.1, strV e.2] ++ biC l from rfl, show (i + 1) * 2 = i * 2 + 2 by omega]
  exact ⟨by rw [List.getElem?_append_right (by simp)]; simpa using ih.1, by rw [List.getElem?_append_right (by simp)]; simpa using ih.2⟩
theorem biC_app (l m : BiL) : biC (l ++ m) = biC l ++ biC m := by simp [biC]
def putSI (i : Int) (b : List UInt8) (s : BiL × Bool) (e : Int × List UInt8) : BiL × Bool :=
 (if e.1 ≠ i then (if s.2 = false ∧ i ≤ e.1 then s.1 ++ [(i, b)] else s.1) ++ [e] else (if s.2 = false ∧ i ≤ e.1 then s.1 ++ [(i, b)] else s.1), s.2 || decide (i ≤ e.1))
def putFI (l : BiL) (i : Int) (b : List UInt8) : BiL :=
 if (l.foldl (putSI i b) ([], false)).2 = true then (l.foldl (putSI i b) ([], false)).1 else (l.foldl (putSI i b) ([], false)).1 ++ [(i, b)]
theorem putSI_len (i : Int) (b : List UInt8) : ∀ (l : BiL) (s : BiL × Bool), (l.foldl (putSI i b) s).1.length ≤ s.1.length + 2 * l.length
 | [], s => by simp
 | e :: l, s => by
  have h1 := putSI_len i b l (putSI i b s e)
  have h2 : (putSI i b s e).1.length ≤ s.1.length + 2 := by
   unfold putSI
   simp only
   split <;> split <;> simp
  rw [List.foldl_cons, List.length_cons]
  omega
theorem putFI_len (l : BiL) (i : Int) (b : List UInt8) : (putFI l i b).length ≤ 2 * l.length + 1 := by
 have h := putSI_len i b l ([], false)
 unfold putFI
 simp only [List.length_nil] at h
 split
 ·omega
 ·rw [List.length_append, List.length_singleton]; omega
theorem putSI_toI (i : Nat) (b : List UInt8) (s : BlL × Bool) (e : Nat × List UInt8) : putSI (i : Int) b (toI s.1, s.2) ((e.1 : Int), e.2) = (toI (putS1 i b s e).1, (putS1 i b s e).2) := by
 have h1 : ((e.1 : Int) ≠ (i : Int)) ↔ e.1 ≠ i := by omega
 have h2 : ((i : Int) ≤ (e.1 : Int)) ↔ i ≤ e.1 := by omega
 unfold putSI putS1
 simp only [h1, h2]
 congr 1
 split <;> split <;> simp [toI]
theorem putF_toI (l : BlL) (i : Nat) (b : List UInt8) : putFI (toI l) (i : Int) b = toI (putF l i b) := by
 have h : ∀ (l : BlL) (s : BlL × Bool), (toI l).foldl (putSI (i : Int) b) (toI s.1, s.2) = (toI (l.foldl (putS1 i b) s).1, (l.foldl (putS1 i b) s).2) := by
  intro l
  induction l with
  | nil => intro s; rfl
  | cons e l ih =>
   intro s
   rw [List.foldl_cons, show toI (e :: l) = ((e.1 : Int), e.2) :: toI l from rfl, List.foldl_cons, putSI_toI]
   exact ih _
 have h0 := h l ([], false)
 rw [show toI ([] : BlL) = [] from rfl] at h0
 simp only at h0
 unfold putFI putF
 rw [h0]
 simp only
 split <;> simp [toI]
end Go.Mt
namespace Go.Proofs.YtfngacepjcdlnaaDoor
open Go Go.Kx Go.Kr Go.Mt
theorem built174 (i : Int) (b : List UInt8) : Tryd.prog.built 174 [(0, .int .i64 i), (1, strV b)] = some [.int .i64 i, strV b].toArray := by kernel_rfl
set_option maxRecDepth 100000 in
set_option maxHeartbeats 16000000 in
theorem putL_calls (l : BiL) (i : Int) (b : List UInt8) (a : Option Addr) (cap : Nat) (w : World) (ho : Own w 174 2 a l.length cap (biC l)) (hl : l.length ≤ 40000) :
  Calls Tryd.prog 55 #[.slice a l.length cap, .int .i64 i, strV b] w fun e w' => ∃ a' cap', e = .returned (.slice a' (putFI l i b).length cap') ∧ Own w' 174 2 a' (putFI l i b).length cap' (biC (putFI l i b)) ∧ (∀ j, blkOf a' j → w.heap.size ≤ j) ∧ Kp No w w' := by
 refine calls_at (n := 56) Tryd.func55 rfl rfl (by simp) ?_
 have hcap := ho.2.1
 (refine At_seq (At_region ?_); refine s_as ?_; refine AtR_nil (At_seq (At_region ?_)); refine s_as ?_; refine AtR_nil (At_seq (At_region ?_)); refine s_as ?_; refine AtR_nil (At_seq (At_seq (At_region ?_))); refine s_as ?_; refine AtR_nil (At_block ?_))
 refine At_while (fun s : Nat × Option Addr × Nat => [(0, .slice a l.length cap), (1, .int .i64 i), (2, strV b), (7, .slice s.2.1 ((l.take s.1).foldl (putSI i b) ([], false)).1.length s.2.2), (8, .bool ((l.take s.1).foldl (putSI i b) ([], false)).2), (9, .int .i64 (s.1 : Int))])
  (fun s w' => s.1 ≤ l.length ∧ Own w' 174 2 s.2.1 ((l.take s.1).foldl (putSI i b) ([], false)).1.length s.2.2 (biC ((l.take s.1).foldl (putSI i b) ([], false)).1) ∧ (∀ j, blkOf s.2.1 j → w.heap.size ≤ j) ∧ Kp No w w') (fun s => l.length - s.1) (0, none, 0) ⟨rfl, rfl, rfl, rfl, rfl, rfl, trivial⟩
  ⟨by omega, Own.nil _ _ _, fun j hj => by simp [blkOf] at hj, Kp.refl _ _⟩ ?_
 rintro ⟨k, ai, ci⟩ w1 junk ⟨hk, hoi, hfr, K⟩ again
 simp only at hk hoi hfr again ⊢
 have hlen := putSI_len i b (l.take k) ([], false)
 rw [List.length_nil, List.length_take] at hlen
 have hfold : ∀ h : k < l.length, (l.take (k + 1)).foldl (putSI i b) ([], false) = putSI i b ((l.take k).foldl (putSI i b) ([], false)) l[k] := fun h => by
  rw [List.take_succ_eq_append_getElem h, List.foldl_append]; rfl
 have hend : k = l.length → putFI l i b = if ((l.take k).foldl (putSI i b) ([], false)).2 = true then ((l.take k).foldl (putSI i b) ([], false)).1 else ((l.take k).foldl (putSI i b) ([], false)).1 ++ [(i, b)] := fun h => by
  subst h; rw [List.take_length]; rfl
 generalize hgs : (l.take k).foldl (putSI i b) ([], false) = S at *
 obtain ⟨out, dn⟩ := S
 simp only at hoi hlen hend ⊢
 have hone : ∀ (x : BiL) (e : Int × List UInt8), biC (x ++ [e]) = biC x ++ [.int .i64 e.1, strV e.2] := fun x e => by rw [biC_app]; rfl
 have hln : ∀ (x : BiL) (e : Int × List UInt8), (x ++ [e]).length = x.length + 1 := fun x e => by rw [List.length_append]; rfl
 by_cases hlt : k < l.length
 ·have hst := hfold hlt
  have ho1 := ho.kp K fun _ _ h => h
  obtain ⟨b0, sp, rfl, _, _, hseg⟩ := own_in ho1 (by omega)
  obtain ⟨g1, g2⟩ := biC_get hlt
  have hsub : Seg w1 b0 (0 + k * 2) [.int .i64 l[k].1, strV l[k].2] := fun j hj => by
   have h := hseg (k * 2 + j) (by rw [biC_length]; simp at hj; omega)
   rw [Nat.add_assoc, h]
   match j, hj with
   | 0, _ => exact g1
   | 1, _ => exact g2
  have lb0 := ho1.lt b0 (by simp [blkOf])
  clear hend hfold
  cases dn with
  | true =>
   by_cases hne : l[k].1 ≠ i
   ·replace hst : (l.take (k + 1)).foldl (putSI i b) ([], false) = (out ++ [l[k]], true) := by rw [hst]; unfold putSI; simp [hne]
    (refine At_seq (At_seq (At_region ?_)); refine s_mv ?_; refine s_mv ?_; refine s_ln ?_; refine s_lss ?_; refine AtR_nil ?_; refine At_cond_t rfl ?_; refine At_skip (At_seq (At_block (At_seq (At_seq (At_region ?_))))); refine s_mv ?_; refine s_nt ?_; refine s_mv ?_; refine s_no rfl rfl rfl rfl ?_; refine s_no rfl rfl rfl rfl ?_; refine s_no rfl rfl rfl rfl ?_; refine s_no rfl rfl rfl rfl ?_; refine s_no rfl rfl rfl rfl ?_; refine s_no rfl rfl rfl rfl ?_; refine s_no rfl rfl rfl rfl ?_; refine s_pf ?_; refine AtR_nil ?_; refine At_cond_f rfl ?_; refine At_skip (At_seq (At_region ?_)); refine s_mv ?_; refine s_mv ?_)
    refine s_val (x_indexAddr (s := 2) rfl rfl (by omega) (by omega)) ?_
    rw [Int.toNat_natCast]
    (refine s_fa ?_)
    refine s_val (x_load_seg (off := 0) (j := k * 2) (by first | rfl | exact congrArg (fun o => Value.pointer (some ⟨b0, o, none⟩)) (by omega)) hseg g1) ?_
    (refine s_mv ?_; refine s_neq ?_; refine AtR_nil ?_; refine At_cond_t rfl ?_; refine At_region ?_; refine s_mv ?_; refine s_mv ?_; refine s_mv ?_)
    refine s_val (x_indexAddr (s := 2) rfl rfl (by omega) (by omega)) ?_
    rw [Int.toNat_natCast]
    refine s_val (x_load_segN rfl hsub rfl) ?_
    refine AtR_go rfl (G_val (r_buildSliceA (s := 2) (z := .agg z174.toArray) rfl (by rfl) (by simp [Value.cells, z174])) ?_)
    rintro _ w3 ⟨b3, rfl, hb3, e3⟩
    have B3 : Blk w3 b3 174 (0, 0) [.int .i64 l[k].1, strV l[k].2] := e3.blk
    have k3 : Kp No w1 w3 := e3.kp (.inr (by omega))
    clear e3
    have ho3 := hoi.kp k3 fun _ _ h => h
    have hsrc3 : Src Tryd.prog 2 102 (.slice (some ⟨b3, 0, none⟩) 1 1) 1 [.int .i64 l[k].1, strV l[k].2] w3 :=
     Src.ofSlice w3 (e' := 174) (by exact (inferInstance : TU Tryd.prog 102 (.slice 174)).h) ⟨b3, 0, none⟩ 1 1 _ (by rfl) (fun j u hj => by rw [add_none, Nat.zero_add, B3.cell, hj]) (fun u hu => by simp at hu; rcases hu with rfl | rfl <;> rfl)
    refine AtR_go rfl (AtG_append (tx := 102) (s := 2) rfl rfl ho3 hsrc3 (by simp [Value.cells, z174]) (by omega) (by simp only [maxLen]; omega) (by omega) fun a3 c3 w3x hp3 kx3 hf3 => ?_)
    have K3 : Kp No w w3x := (K.trans k3).trans' kx3 fun j hj => .inr (hfr j hj)
    have hfr3 : ∀ j, blkOf a3 j → w.heap.size ≤ j := fun j hj => by
     rcases hf3 with rfl | ⟨b', rfl, hb⟩
     ·exact hfr j hj
     ·simp [blkOf] at hj; have := (K.trans k3).size; omega
    (refine s_as ?_; refine AtR_nil (At_inBlock (At_region ?_)); refine s_mv ?_; refine s_ad ?_; refine s_as ?_; refine AtR_nil ?_)
    refine again (k + 1, a3, c3) _ _ ⟨rfl, rfl, rfl, by simp only [hst, hln]; rfl, by simp only [hst]; rfl, rfl, trivial⟩ ⟨hlt, ?_, hfr3, K3⟩ (by simp only; omega)
    simp only
    rw [hst]
    simpa only [hone, hln] using hp3
   ·replace hst : (l.take (k + 1)).foldl (putSI i b) ([], false) = (out, true) := by rw [hst]; unfold putSI; simp [hne]
    (refine At_seq (At_seq (At_region ?_)); refine s_mv ?_; refine s_mv ?_; refine s_ln ?_; refine s_lss ?_; refine AtR_nil ?_; refine At_cond_t rfl ?_; refine At_skip (At_seq (At_block (At_seq (At_seq (At_region ?_))))); refine s_mv ?_; refine s_nt ?_; refine s_mv ?_; refine s_no rfl rfl rfl rfl ?_; refine s_no rfl rfl rfl rfl ?_; refine s_no rfl rfl rfl rfl ?_; refine s_no rfl rfl rfl rfl ?_; refine s_no rfl rfl rfl rfl ?_; refine s_no rfl rfl rfl rfl ?_; refine s_no rfl rfl rfl rfl ?_; refine s_pf ?_; refine AtR_nil ?_; refine At_cond_f rfl ?_; refine At_skip (At_seq (At_region ?_)); refine s_mv ?_; refine s_mv ?_)
    refine s_val (x_indexAddr (s := 2) rfl rfl (by omega) (by omega)) ?_
    rw [Int.toNat_natCast]
    (refine s_fa ?_)
    refine s_val (x_load_seg (off := 0) (j := k * 2) (by first | rfl | exact congrArg (fun o => Value.pointer (some ⟨b0, o, none⟩)) (by omega)) hseg g1) ?_
    (refine s_mv ?_; refine s_neq ?_; refine AtR_nil ?_; refine At_cond_f rfl ?_; refine At_skip (At_inBlock (At_region ?_)); refine s_mv ?_; refine s_ad ?_; refine s_as ?_; refine AtR_nil ?_)
    refine again (k + 1, ai, ci) _ _ ⟨rfl, rfl, rfl, by simp only [hst]; rfl, by simp only [hst]; rfl, rfl, trivial⟩ ⟨hlt, ?_, hfr, K⟩ (by simp only; omega)
    simp only
    rw [hst]
    simpa only [hone, hln] using hoi
  | false =>
   by_cases hge : i ≤ l[k].1
   rotate_left
   ·have hne : l[k].1 ≠ i := by omega
    replace hst : (l.take (k + 1)).foldl (putSI i b) ([], false) = (out ++ [l[k]], false) := by rw [hst]; unfold putSI; simp [hge, hne]
    (refine At_seq (At_seq (At_region ?_)); refine s_mv ?_; refine s_mv ?_; refine s_ln ?_; refine s_lss ?_; refine AtR_nil ?_; refine At_cond_t rfl ?_; refine At_skip (At_seq (At_block (At_seq (At_seq (At_region ?_))))); refine s_mv ?_; refine s_nt ?_; refine s_mv ?_; refine s_yes rfl rfl rfl rfl ?_; refine g_mv ?_; refine s_yes rfl rfl rfl rfl ?_; refine g_mv ?_)
    refine s_yes rfl rfl rfl rfl (g_val (x_indexAddr (s := 2) rfl rfl (by omega) (by omega)) ?_)
    rw [Int.toNat_natCast]
    (refine s_yes rfl rfl rfl rfl ?_; refine g_fa ?_)
    refine s_yes rfl rfl rfl rfl (g_val (x_load_seg (off := 0) (j := k * 2) (by first | rfl | exact congrArg (fun o => Value.pointer (some ⟨b0, o, none⟩)) (by omega)) hseg g1) ?_)
    (refine s_yes rfl rfl rfl rfl ?_; refine g_mv ?_; refine s_yes rfl rfl rfl rfl ?_; refine g_geq ?_; refine s_pt ?_; refine AtR_nil ?_; refine At_cond_f rfl ?_; refine At_skip (At_seq (At_region ?_)); refine s_mv ?_; refine s_mv ?_)
    refine s_val (x_indexAddr (s := 2) rfl rfl (by omega) (by omega)) ?_
    rw [Int.toNat_natCast]
    (refine s_fa ?_)
    refine s_val (x_load_seg (off := 0) (j := k * 2) (by first | rfl | exact congrArg (fun o => Value.pointer (some ⟨b0, o, none⟩)) (by omega)) hseg g1) ?_
    (refine s_mv ?_; refine s_neq ?_; refine AtR_nil ?_; refine At_cond_t rfl ?_; refine At_region ?_; refine s_mv ?_; refine s_mv ?_; refine s_mv ?_)
    refine s_val (x_indexAddr (s := 2) rfl rfl (by omega) (by omega)) ?_
    rw [Int.toNat_natCast]
    refine s_val (x_load_segN rfl hsub rfl) ?_
    refine AtR_go rfl (G_val (r_buildSliceA (s := 2) (z := .agg z174.toArray) rfl (by rfl) (by simp [Value.cells, z174])) ?_)
    rintro _ w3 ⟨b3, rfl, hb3, e3⟩
    have B3 : Blk w3 b3 174 (0, 0) [.int .i64 l[k].1, strV l[k].2] := e3.blk
    have k3 : Kp No w1 w3 := e3.kp (.inr (by omega))
    clear e3
    have ho3 := hoi.kp k3 fun _ _ h => h
    have hsrc3 : Src Tryd.prog 2 102 (.slice (some ⟨b3, 0, none⟩) 1 1) 1 [.int .i64 l[k].1, strV l[k].2] w3 :=
     Src.ofSlice w3 (e' := 174) (by exact (inferInstance : TU Tryd.prog 102 (.slice 174)).h) ⟨b3, 0, none⟩ 1 1 _ (by rfl) (fun j u hj => by rw [add_none, Nat.zero_add, B3.cell, hj]) (fun u hu => by simp at hu; rcases hu with rfl | rfl <;> rfl)
    refine AtR_go rfl (AtG_append (tx := 102) (s := 2) rfl rfl ho3 hsrc3 (by simp [Value.cells, z174]) (by omega) (by simp only [maxLen]; omega) (by omega) fun a3 c3 w3x hp3 kx3 hf3 => ?_)
    have K3 : Kp No w w3x := (K.trans k3).trans' kx3 fun j hj => .inr (hfr j hj)
    have hfr3 : ∀ j, blkOf a3 j → w.heap.size ≤ j := fun j hj => by
     rcases hf3 with rfl | ⟨b', rfl, hb⟩
     ·exact hfr j hj
     ·simp [blkOf] at hj; have := (K.trans k3).size; omega
    (refine s_as ?_; refine AtR_nil (At_inBlock (At_region ?_)); refine s_mv ?_; refine s_ad ?_; refine s_as ?_; refine AtR_nil ?_)
    refine again (k + 1, a3, c3) _ _ ⟨rfl, rfl, rfl, by simp only [hst, hln]; rfl, by simp only [hst]; rfl, rfl, trivial⟩ ⟨hlt, ?_, hfr3, K3⟩ (by simp only; omega)
    simp only
    rw [hst]
    simpa only [hone, hln] using hp3
   by_cases hne : l[k].1 ≠ i
   ·replace hst : (l.take (k + 1)).foldl (putSI i b) ([], false) = ((out ++ [(i, b)]) ++ [l[k]], true) := by rw [hst]; unfold putSI; simp [hge, hne]
    (refine At_seq (At_seq (At_region ?_)); refine s_mv ?_; refine s_mv ?_; refine s_ln ?_; refine s_lss ?_; refine AtR_nil ?_; refine At_cond_t rfl ?_; refine At_skip (At_seq (At_block (At_seq (At_seq (At_region ?_))))); refine s_mv ?_; refine s_nt ?_; refine s_mv ?_; refine s_yes rfl rfl rfl rfl ?_; refine g_mv ?_; refine s_yes rfl rfl rfl rfl ?_; refine g_mv ?_)
    refine s_yes rfl rfl rfl rfl (g_val (x_indexAddr (s := 2) rfl rfl (by omega) (by omega)) ?_)
    rw [Int.toNat_natCast]
    (refine s_yes rfl rfl rfl rfl ?_; refine g_fa ?_)
    refine s_yes rfl rfl rfl rfl (g_val (x_load_seg (off := 0) (j := k * 2) (by first | rfl | exact congrArg (fun o => Value.pointer (some ⟨b0, o, none⟩)) (by omega)) hseg g1) ?_)
    (refine s_yes rfl rfl rfl rfl ?_; refine g_mv ?_; refine s_yes rfl rfl rfl rfl ?_; refine g_geq ?_; refine s_pt ?_; refine AtR_nil ?_; refine At_cond_t rfl ?_; refine At_seq (At_region ?_); refine s_mv ?_; refine s_mv ?_; refine s_mv ?_)
    refine s_val (x_build rfl (built174 i b)) ?_
    refine AtR_go rfl (G_val (r_buildSliceA (s := 2) (z := .agg z174.toArray) rfl (by rfl) (by simp [Value.cells, z174])) ?_)
    rintro _ w2 ⟨b2, rfl, hb2, e2⟩
    have B2 : Blk w2 b2 174 (0, 0) [.int .i64 i, strV b] := e2.blk
    have k2 : Kp No w1 w2 := e2.kp (.inr (by omega))
    clear e2
    have ho2 := hoi.kp k2 fun _ _ h => h
    have hsrc2 : Src Tryd.prog 2 102 (.slice (some ⟨b2, 0, none⟩) 1 1) 1 [.int .i64 i, strV b] w2 :=
     Src.ofSlice w2 (e' := 174) (by exact (inferInstance : TU Tryd.prog 102 (.slice 174)).h) ⟨b2, 0, none⟩ 1 1 _ (by rfl) (fun j u hj => by rw [add_none, Nat.zero_add, B2.cell, hj]) (fun u hu => by simp at hu; rcases hu with rfl | rfl <;> rfl)
    refine AtR_go rfl (AtG_append (tx := 102) (s := 2) rfl rfl ho2 hsrc2 (by simp [Value.cells, z174]) (by omega) (by simp only [maxLen]; omega) (by omega) fun a2 c2 w2x hp2 kx2 hf2 => ?_)
    have K2 : Kp No w w2x := (K.trans k2).trans' kx2 fun j hj => .inr (hfr j hj)
    have hfr2 : ∀ j, blkOf a2 j → w.heap.size ≤ j := fun j hj => by
     rcases hf2 with rfl | ⟨b', rfl, hb⟩
     ·exact hfr j hj
     ·simp [blkOf] at hj; have := (K.trans k2).size; omega
    obtain ⟨b0', sp', hb0', _, _, hsegB⟩ := own_in (ho.kp K2 fun _ _ h => h) (by omega)
    obtain rfl : b0 = b0' := by simpa using hb0'
    have hsubB : Seg w2x b0 (0 + k * 2) [.int .i64 l[k].1, strV l[k].2] := fun j hj => by
     have h := hsegB (k * 2 + j) (by rw [biC_length]; simp at hj; omega)
     rw [Nat.add_assoc, h]
     match j, hj with
     | 0, _ => exact g1
     | 1, _ => exact g2
    (refine s_as ?_; refine AtR_nil (At_region ?_); refine s_as ?_; refine AtR_nil (At_seq (At_region ?_)); refine s_mv ?_; refine s_mv ?_)
    refine s_val (x_indexAddr (s := 2) rfl rfl (by omega) (by omega)) ?_
    rw [Int.toNat_natCast]
    (refine s_fa ?_)
    refine s_val (x_load_seg (off := 0) (j := k * 2) (by first | rfl | exact congrArg (fun o => Value.pointer (some ⟨b0, o, none⟩)) (by omega)) hsegB g1) ?_
    (refine s_mv ?_; refine s_neq ?_; refine AtR_nil ?_; refine At_cond_t rfl ?_; refine At_region ?_; refine s_mv ?_; refine s_mv ?_; refine s_mv ?_)
    refine s_val (x_indexAddr (s := 2) rfl rfl (by omega) (by omega)) ?_
    rw [Int.toNat_natCast]
    refine s_val (x_load_segN rfl hsubB rfl) ?_
    refine AtR_go rfl (G_val (r_buildSliceA (s := 2) (z := .agg z174.toArray) rfl (by rfl) (by simp [Value.cells, z174])) ?_)
    rintro _ w3 ⟨b3, rfl, hb3, e3⟩
    have B3 : Blk w3 b3 174 (0, 0) [.int .i64 l[k].1, strV l[k].2] := e3.blk
    have k3 : Kp No w2x w3 := e3.kp (.inr (by omega))
    clear e3
    have ho3 := hp2.kp k3 fun _ _ h => h
    have hsrc3 : Src Tryd.prog 2 102 (.slice (some ⟨b3, 0, none⟩) 1 1) 1 [.int .i64 l[k].1, strV l[k].2] w3 :=
     Src.ofSlice w3 (e' := 174) (by exact (inferInstance : TU Tryd.prog 102 (.slice 174)).h) ⟨b3, 0, none⟩ 1 1 _ (by rfl) (fun j u hj => by rw [add_none, Nat.zero_add, B3.cell, hj]) (fun u hu => by simp at hu; rcases hu with rfl | rfl <;> rfl)
    refine AtR_go rfl (AtG_append (tx := 102) (s := 2) rfl rfl ho3 hsrc3 (by simp [Value.cells, z174]) (by omega) (by simp only [maxLen]; omega) (by omega) fun a3 c3 w3x hp3 kx3 hf3 => ?_)
    have K3 : Kp No w w3x := (K2.trans k3).trans' kx3 fun j hj => .inr (hfr2 j hj)
    have hfr3 : ∀ j, blkOf a3 j → w.heap.size ≤ j := fun j hj => by
     rcases hf3 with rfl | ⟨b', rfl, hb⟩
     ·exact hfr2 j hj
     ·simp [blkOf] at hj; have := (K2.trans k3).size; omega
    (refine s_as ?_; refine AtR_nil (At_inBlock (At_region ?_)); refine s_mv ?_; refine s_ad ?_; refine s_as ?_; refine AtR_nil ?_)
    refine again (k + 1, a3, c3) _ _ ⟨rfl, rfl, rfl, by simp only [hst, hln]; rfl, by simp only [hst]; rfl, rfl, trivial⟩ ⟨hlt, ?_, hfr3, K3⟩ (by simp only; omega)
    simp only
    rw [hst]
    simpa only [hone, hln] using hp3
   ·replace hst : (l.take (k + 1)).foldl (putSI i b) ([], false) = (out ++ [(i, b)], true) := by rw [hst]; unfold putSI; simp [hge, hne]
    (refine At_seq (At_seq (At_region ?_)); refine s_mv ?_; refine s_mv ?_; refine s_ln ?_; refine s_lss ?_; refine AtR_nil ?_; refine At_cond_t rfl ?_; refine At_skip (At_seq (At_block (At_seq (At_seq (At_region ?_))))); refine s_mv ?_; refine s_nt ?_; refine s_mv ?_; refine s_yes rfl rfl rfl rfl ?_; refine g_mv ?_; refine s_yes rfl rfl rfl rfl ?_; refine g_mv ?_)
    refine s_yes rfl rfl rfl rfl (g_val (x_indexAddr (s := 2) rfl rfl (by omega) (by omega)) ?_)
    rw [Int.toNat_natCast]
    (refine s_yes rfl rfl rfl rfl ?_; refine g_fa ?_)
    refine s_yes rfl rfl rfl rfl (g_val (x_load_seg (off := 0) (j := k * 2) (by first | rfl | exact congrArg (fun o => Value.pointer (some ⟨b0, o, none⟩)) (by omega)) hseg g1) ?_)
    (refine s_yes rfl rfl rfl rfl ?_; refine g_mv ?_; refine s_yes rfl rfl rfl rfl ?_; refine g_geq ?_; refine s_pt ?_; refine AtR_nil ?_; refine At_cond_t rfl ?_; refine At_seq (At_region ?_); refine s_mv ?_; refine s_mv ?_; refine s_mv ?_)
    refine s_val (x_build rfl (built174 i b)) ?_
    refine AtR_go rfl (G_val (r_buildSliceA (s := 2) (z := .agg z174.toArray) rfl (by rfl) (by simp [Value.cells, z174])) ?_)
    rintro _ w2 ⟨b2, rfl, hb2, e2⟩
    have B2 : Blk w2 b2 174 (0, 0) [.int .i64 i, strV b] := e2.blk
    have k2 : Kp No w1 w2 := e2.kp (.inr (by omega))
    clear e2
    have ho2 := hoi.kp k2 fun _ _ h => h
    have hsrc2 : Src Tryd.prog 2 102 (.slice (some ⟨b2, 0, none⟩) 1 1) 1 [.int .i64 i, strV b] w2 :=
     Src.ofSlice w2 (e' := 174) (by exact (inferInstance : TU Tryd.prog 102 (.slice 174)).h) ⟨b2, 0, none⟩ 1 1 _ (by rfl) (fun j u hj => by rw [add_none, Nat.zero_add, B2.cell, hj]) (fun u hu => by simp at hu; rcases hu with rfl | rfl <;> rfl)
    refine AtR_go rfl (AtG_append (tx := 102) (s := 2) rfl rfl ho2 hsrc2 (by simp [Value.cells, z174]) (by omega) (by simp only [maxLen]; omega) (by omega) fun a2 c2 w2x hp2 kx2 hf2 => ?_)
    have K2 : Kp No w w2x := (K.trans k2).trans' kx2 fun j hj => .inr (hfr j hj)
    have hfr2 : ∀ j, blkOf a2 j → w.heap.size ≤ j := fun j hj => by
     rcases hf2 with rfl | ⟨b', rfl, hb⟩
     ·exact hfr j hj
     ·simp [blkOf] at hj; have := (K.trans k2).size; omega
    obtain ⟨b0', sp', hb0', _, _, hsegB⟩ := own_in (ho.kp K2 fun _ _ h => h) (by omega)
    obtain rfl : b0 = b0' := by simpa using hb0'
    have hsubB : Seg w2x b0 (0 + k * 2) [.int .i64 l[k].1, strV l[k].2] := fun j hj => by
     have h := hsegB (k * 2 + j) (by rw [biC_length]; simp at hj; omega)
     rw [Nat.add_assoc, h]
     match j, hj with
     | 0, _ => exact g1
     | 1, _ => exact g2
    (refine s_as ?_; refine AtR_nil (At_region ?_); refine s_as ?_; refine AtR_nil (At_seq (At_region ?_)); refine s_mv ?_; refine s_mv ?_)
    refine s_val (x_indexAddr (s := 2) rfl rfl (by omega) (by omega)) ?_
    rw [Int.toNat_natCast]
    (refine s_fa ?_)
    refine s_val (x_load_seg (off := 0) (j := k * 2) (by first | rfl | exact congrArg (fun o => Value.pointer (some ⟨b0, o, none⟩)) (by omega)) hsegB g1) ?_
    (refine s_mv ?_; refine s_neq ?_; refine AtR_nil ?_; refine At_cond_f rfl ?_; refine At_skip (At_inBlock (At_region ?_)); refine s_mv ?_; refine s_ad ?_; refine s_as ?_; refine AtR_nil ?_)
    refine again (k + 1, a2, c2) _ _ ⟨rfl, rfl, rfl, by simp only [hst, hln]; rfl, by simp only [hst]; rfl, rfl, trivial⟩ ⟨hlt, ?_, hfr2, K2⟩ (by simp only; omega)
    simp only
    rw [hst]
    simpa only [hone, hln] using hp2
 have hke : k = l.length := by omega
 clear again hfold
 have hE := hend hke
 cases dn with
 | true =>
  rw [if_pos rfl] at hE
  rw [hE]
  (refine At_seq (At_seq (At_region ?_)); refine s_mv ?_; refine s_mv ?_; refine s_ln ?_; refine s_lss ?_; refine AtR_nil ?_; refine At_cond_f rfl ?_; refine At_exit rfl ?_; refine At_seq (At_seq (At_region ?_)); refine s_mv ?_; refine s_nt ?_; refine AtR_nil ?_; refine At_cond_f rfl ?_; refine At_skip (At_seq (At_region ?_)); refine s_mv ?_; refine s_as ?_; refine AtR_nil ?_)
  refine At_ret1 Tryd.func55 rfl (by conv => lhs; whnf) ?_
  exact ⟨ai, ci, rfl, hoi, hfr, K⟩
 | false =>
  rw [if_neg (by simp)] at hE
  rw [hE]
  (refine At_seq (At_seq (At_region ?_)); refine s_mv ?_; refine s_mv ?_; refine s_ln ?_; refine s_lss ?_; refine AtR_nil ?_; refine At_cond_f rfl ?_; refine At_exit rfl ?_; refine At_seq (At_seq (At_region ?_)); refine s_mv ?_; refine s_nt ?_; refine AtR_nil ?_; refine At_cond_t rfl ?_; refine At_region ?_; refine s_mv ?_; refine s_mv ?_; refine s_mv ?_)
  refine s_val (x_build rfl (built174 i b)) ?_
  refine AtR_go rfl (G_val (r_buildSliceA (s := 2) (z := .agg z174.toArray) rfl (by rfl) (by simp [Value.cells, z174])) ?_)
  rintro _ w2 ⟨b2, rfl, hb2, e2⟩
  have B2 : Blk w2 b2 174 (0, 0) [.int .i64 i, strV b] := e2.blk
  have k2 : Kp No w1 w2 := e2.kp (.inr (by omega))
  clear e2
  have ho2 := hoi.kp k2 fun _ _ h => h
  have hsrc2 : Src Tryd.prog 2 102 (.slice (some ⟨b2, 0, none⟩) 1 1) 1 [.int .i64 i, strV b] w2 :=
   Src.ofSlice w2 (e' := 174) (by exact (inferInstance : TU Tryd.prog 102 (.slice 174)).h) ⟨b2, 0, none⟩ 1 1 _ (by rfl) (fun j u hj => by rw [add_none, Nat.zero_add, B2.cell, hj]) (fun u hu => by simp at hu; rcases hu with rfl | rfl <;> rfl)
  refine AtR_go rfl (AtG_append (tx := 102) (s := 2) rfl rfl ho2 hsrc2 (by simp [Value.cells, z174]) (by omega) (by simp only [maxLen]; omega) (by omega) fun a2 c2 w2x hp2 kx2 hf2 => ?_)
  have K2 : Kp No w w2x := (K.trans k2).trans' kx2 fun j hj => .inr (hfr j hj)
  have hfr2 : ∀ j, blkOf a2 j → w.heap.size ≤ j := fun j hj => by
   rcases hf2 with rfl | ⟨b', rfl, hb⟩
   ·exact hfr j hj
   ·simp [blkOf] at hj; have := (K.trans k2).size; omega
  (refine s_as ?_; refine AtR_nil (At_seq (At_region ?_)); refine s_mv ?_; refine s_as ?_; refine AtR_nil ?_)
  refine At_ret1 Tryd.func55 rfl (by conv => lhs; whnf) ?_
  refine ⟨a2, c2, by rw [hln], ?_, hfr2, K2⟩
  rw [hln, hone]
  exact hp2
end Go.Proofs.YtfngacepjcdlnaaDoor
namespace Go.Mt
open Go Go.Kx Go.Proofs.YtfngacepjcdlnaaDoor
theorem Ttold.wf {key name : List UInt8} {st : St} {r : Pr} {d : Nat} {l : BlL} {R n : Nat} (h : Ttold key name st r d l R n) (hb : st.b.length ≤ 1000000) : r.wf := by
 obtain ⟨f, S, ht, _, _⟩ := h.ex
 exact ht.wf hb
end Go.Mt
namespace Go.Proofs.YtfngacepjcdlnaaDoor
open Go Go.Kx Go.Kr Go.Mt
set_option maxRecDepth 100000 in
set_option maxHeartbeats 16000000 in
theorem same59_calls (g sp bo : Nat) (key name : List UInt8) (st : St) (r : Pr) (d : Nat) (l : BlL) (R n : Nat) (a : Option Addr) (cap : Nat) (w : World) {Ds Dg : Nat → Prop} (hT : Ttold key name st r d l R n) (hR : R ≤ 1000) (h : Wood w g sp bo key name st Ds Dg) (ho : Own w 174 2 a l.length cap (blC l)) :
  Calls Tryd.prog 59 #[.pointer (some ⟨g, 0, none⟩), .pointer (some ⟨sp, 0, none⟩), .agg (trC r (d : Int)).toArray, .slice a l.length cap] w fun e w' => e = .returned (.bool true) ∧ Kp No w w' := by
 refine calls_at (n := 103) Tryd.func59 rfl rfl (by simp) ?_
 obtain ⟨hll, hd5, hkeys⟩ := hT.few
 have hr := hT.wf h.stt.few.1
 have hl34 := trC_length hr (d : Int)
 have hdeep := trC_deep hr (d : Int)
 have hcap := ho.2.1
 (refine At_seq (At_region ?_))
 refine AtR_go rfl (AtG_box rfl fun b6 w1 hb6 e1 => ?_)
 have B6 : Blk w1 b6 40 (0, 0) (trC r (d : Int)) := e1.blk
 have K1 : Kp No w w1 := e1.kp (.inr (by omega))
 clear e1
 (refine s_as ?_; refine AtR_nil (At_seq (At_seq (At_region ?_))); refine s_as ?_; refine AtR_nil (At_block ?_))
 refine At_while (fun k : Nat => [(0, .pointer (some ⟨g, 0, none⟩)), (1, .pointer (some ⟨sp, 0, none⟩)), (3, .slice a l.length cap), (6, .pointer (some ⟨b6, 0, none⟩)), (9, .int .i64 (k : Int))])
  (fun k w' => k ≤ l.length ∧ Blk w' b6 40 (0, 0) (trC r (d : Int)) ∧ Kp No w w') (fun k => l.length - k) 0 ⟨rfl, rfl, rfl, rfl, rfl, trivial⟩ ⟨by omega, B6, K1⟩ ?_
 clear B6 K1 w1 hb6
 rintro k w1 junk ⟨hk, B6, K⟩ again
 have h1 := h.kpn K
 have ho1 := ho.kp K fun _ _ h => h
 by_cases hlt : k < l.length
 ·obtain ⟨b0, sp0, rfl, _, _, hseg⟩ := own_in ho1 (by omega)
  obtain ⟨g1, g2⟩ := blC_get hlt
  have lb0 := ho1.lt b0 (by simp [blkOf])
  have hkey := hkeys _ (List.getElem_mem hlt)
  have hget := hT.getT l[k].1
  have hgl : getL l (l[k].1 : Int) = some l[k].2 := by
   obtain ⟨f, S, _, hb, _⟩ := hT.ex
   rw [hb.get]; exact (hb.mem _ _).1 (List.getElem_mem hlt)
  rw [hgl] at hget
  have hget2 := hT.getT (l[k].1 + 1)
  obtain ⟨kk, hkk⟩ : ∃ kk, kk = l[k].1 := ⟨_, rfl⟩
  obtain ⟨bb, hbb⟩ : ∃ bb, bb = l[k].2 := ⟨_, rfl⟩
  rw [← hkk] at g1 hkey hget hget2
  rw [← hbb] at g2 hget
  clear hgl hkk hbb
  (refine At_seq (At_seq (At_region ?_)); refine s_mv ?_; refine s_mv ?_; refine s_ln ?_; refine s_lss ?_; refine AtR_nil ?_; refine At_cond_t rfl ?_; refine At_skip (At_seq (At_block ?_)); refine At_seq ?_)
  have kd := Kp.drew (S := No) (w := w1)
  let S : World → Prop := fun w' => Blk w' b6 40 (0, 0) (trC r (d : Int)) ∧ Seg w' b0 0 (blC l) ∧ b0 < w'.heap.size
  have hSk : ∀ {w w'}, S w → Kp No w w' → S w' := fun h k => ⟨h.1.kp k fun h => h, h.2.1.kp k (fun h => h) h.2.2, Nat.lt_of_lt_of_le h.2.2 k.size⟩
  have hS : S w1.drew := hSk (w := w1) ⟨B6, hseg, lb0⟩ kd
  refine At_draw S rfl ?_
  (apply AtH_take 0 rfl (by decide +kernel) (by exact rfl); (focus (intro wx hx; skip; exact x_move (by conv => lhs; whnf))); (focus (exact hS)))
  (apply AtH_take 2 rfl (by decide +kernel) (by exact rfl); (focus (intro wx hx; skip; exact x_move (by conv => lhs; whnf))); (focus (exact hS)))
  (apply AtH_take 3 rfl (by decide +kernel) (by exact rfl); (focus (intro wx hx; skip; exact x_move (by conv => lhs; whnf))); (focus (exact hS)))
  refine AtH_take 1 rfl (by decide +kernel) (by exact rfl) (fun wx hx => x_load_all rfl hx.1 hl34) hS ?_
  refine AtH_take 4 rfl (by decide +kernel) (by exact rfl) (fun wx hx => x_indexAddr (s := 2) rfl rfl (by omega) (by omega)) hS ?_
  rw [Int.toNat_natCast]
  (apply AtH_take 5 rfl (by decide +kernel) (by exact rfl); (focus (intro wx hx; skip; exact x_fieldAddrN rfl (by first | exact Nat.zero_add _ | exact Nat.add_zero _ | (simp only [Nat.reduceAdd] <;> rfl) | exact rfl))); (focus (exact hS)))
  refine AtH_take 6 rfl (by decide +kernel) (by exact rfl) (fun wx hx => x_load_seg (off := 0) (j := k * 2) (by first | rfl | exact congrArg (fun o => Value.pointer (some ⟨b0, o, none⟩)) (by omega)) hx.2.1 g1) hS ?_
  have hW1 := h1.kpn kd
  refine AtH_call 7 rfl (by decide +kernel) (by exact rfl) x_call  (Get_calls g sp bo key name st r (d : Int) (kk : Int) _ hW1.gr hW1.stt hr (by omega) (by omega)) ?_
  rw [hget]
  rintro _ w2 ⟨k2, v, rfl, hv⟩
  have hS2 := hSk hS k2
  refine ⟨_, rfl, hS2, ?_⟩
  clear hS
  have hS := hS2
  (apply AtH_take 8 rfl (by decide +kernel) (by exact rfl); (focus (intro wx hx; skip; exact x_move (by conv => lhs; whnf))); (focus (exact hS)))
  (apply AtH_take 9 rfl (by decide +kernel) (by exact rfl); (focus (intro wx hx; skip; exact x_extract rfl rfl)); (focus (exact hS)))
  (apply AtH_take 10 rfl (by decide +kernel) (by exact rfl); (focus (intro wx hx; skip; exact x_extract rfl rfl)); (focus (exact hS)))
  (apply AtH_take 11 rfl (by decide +kernel) (by exact rfl); (focus (intro wx hx; skip; exact x_assign (by conv => lhs; whnf))); (focus (exact hS)))
  (apply AtH_take 12 rfl (by decide +kernel) (by exact rfl); (focus (intro wx hx; skip; exact x_assign (by conv => lhs; whnf))); (focus (exact hS)))
  refine AtH_done (by decide +kernel) ?_
  obtain ⟨bv, cv, rfl, hsv, hbv, hbl⟩ : OptAt w1.drew w2 (some bb) v := hv
  have K2 := (K.trans kd).trans k2
  obtain ⟨B62, hseg2, lb02⟩ : Blk w2 b6 40 (0, 0) (trC r (d : Int)) ∧ Seg w2 b0 0 (blC l) ∧ b0 < w2.heap.size := hS
  clear hS2 hSk S
  (refine At_seq (At_seq ?_))
  have kd3 := Kp.drew (S := No) (w := w2)
  let S : World → Prop := fun w' => Seg w' b0 0 (blC l) ∧ Sl w' .u8 (some ⟨bv, 0, none⟩) 512 cv (bs8 bb)
  have hS : S w2.drew := ⟨hseg2.kp kd3 (fun h => h) lb02, hsv.kpn kd3⟩
  refine At_draw S rfl ?_
  (apply AtH_take 0 rfl (by decide +kernel) (by exact rfl); (focus (intro wx hx; skip; exact x_move (by conv => lhs; whnf))); (focus (exact hS)))
  (apply AtH_bool 1 rfl (by decide +kernel) (by exact rfl); (focus (intro wx hx; skip; exact x_neq rfl rfl)); (focus (exact decide_eq_false (by omega))); (focus (exact hS)))
  (apply AtH_take 2 rfl (by decide +kernel) (by exact rfl); (focus (intro wx hx; skip; exact x_move (by conv => lhs; whnf))); (focus (exact hS)))
  (apply AtH_take 3 rfl (by decide +kernel) (by exact ⟨_, _, rfl, by decide, rfl, rfl⟩); (focus (intro wx hx; skip; exact x_move (by conv => lhs; whnf))); (focus (exact hS)))
  (apply AtH_take 5 rfl (by decide +kernel) (by exact ⟨_, _, rfl, by decide, rfl, rfl⟩); (focus (intro wx hx; skip; exact x_move (by conv => lhs; whnf))); (focus (exact hS)))
  (apply AtH_take 6 rfl (by decide +kernel) (by exact ⟨_, _, rfl, by decide, rfl, rfl⟩); (focus (intro wx hx; skip; exact x_move (by conv => lhs; whnf))); (focus (exact hS)))
  refine AtH_take 4 rfl (by decide +kernel) (by exact ⟨_, _, rfl, by decide, rfl, rfl⟩) (fun wx hx => x_conv_bs rfl (hx.2.e (D := fun _ => True) fun _ _ => trivial)) hS ?_
  refine AtH_take 7 rfl (by decide +kernel) (by exact ⟨_, _, rfl, by decide, rfl, rfl⟩) (fun wx hx => x_indexAddr (s := 2) rfl rfl (by omega) (by omega)) hS ?_
  rw [Int.toNat_natCast]
  (apply AtH_take 8 rfl (by decide +kernel) (by exact ⟨_, _, rfl, by decide, rfl, rfl⟩); (focus (intro wx hx; skip; exact x_fieldAddrN rfl (by first | exact Nat.zero_add _ | exact Nat.add_zero _ | (simp only [Nat.reduceAdd] <;> rfl) | exact rfl))); (focus (exact hS)))
  refine AtH_take 9 rfl (by decide +kernel) (by exact ⟨_, _, rfl, by decide, rfl, rfl⟩) (fun wx hx => x_load_seg (off := 0) (j := k * 2 + 1) (by first | rfl | exact congrArg (fun o => Value.pointer (some ⟨b0, o, none⟩)) (by omega)) hx.1 g2) hS ?_
  refine AtH_take 10 rfl (by decide +kernel) (by exact ⟨_, _, rfl, by decide, rfl, rfl⟩) (fun wx hx => x_neq_str rfl rfl) hS ?_
  rw [show decide (bb ≠ bb) = false from decide_eq_false (fun h => h rfl)]
  (apply AtH_take 11 rfl (by decide +kernel) (by exact rfl); (focus (intro wx hx; skip; exact x_pick_f rfl (by conv => lhs; whnf))); (focus (exact hS)))
  refine AtH_done (by decide +kernel) ?_
  have K3 := K2.trans kd3
  have ho3 := ho.kp K3 fun _ _ h => h
  have hseg3 := hseg2.kp kd3 (fun h => h) lb02
  have B63 := B62.kp kd3 fun h => h
  have h3 := h.kpn K3
  clear hS S
  (refine At_cond_f rfl ?_; refine At_skip (At_seq (At_region ?_)); refine s_mv ?_; refine s_mv ?_; refine s_mv ?_)
  refine s_val (x_indexAddr (s := 2) rfl rfl (by omega) (by omega)) ?_
  rw [Int.toNat_natCast]
  (refine s_fa ?_)
  refine s_val (x_load_seg (off := 0) (j := k * 2) (by first | rfl | exact congrArg (fun o => Value.pointer (some ⟨b0, o, none⟩)) (by omega)) hseg3 g1) ?_
  (refine s_ad ?_)
  refine s_call x_call (getL_calls l ((kk : Int) + 1) (some ⟨b0, 0, none⟩) cap _ ho3 (by omega)) ?_
  rintro _ _ ⟨rfl, rfl⟩
  refine ⟨_, rfl, ?_⟩
  replace hget2 : getT key name st r (d : Int) ((kk : Int) + 1) = (0, getL l ((kk : Int) + 1)) := hget2
  cases hg2 : getL l ((kk : Int) + 1) with
  | some x =>
   rw [show (some x).isSome = true from rfl]
   (refine s_mv ?_; refine s_ex ?_; refine s_ex ?_; refine s_as ?_; refine s_as ?_; refine AtR_nil (At_seq (At_region ?_)); refine s_mv ?_; refine s_nt ?_; refine AtR_nil ?_; refine At_cond_f rfl ?_; refine At_skip (At_inBlock (At_region ?_)); refine s_mv ?_; refine s_ad ?_; refine s_as ?_; refine AtR_nil ?_)
   exact again (k + 1) _ _ ⟨rfl, rfl, rfl, rfl, rfl, trivial⟩ ⟨hlt, B63, K3⟩ (by omega)
  | none =>
   rw [hg2] at hget2
   rw [show (none : Option (List UInt8)).isSome = false from rfl]
   (refine s_mv ?_; refine s_ex ?_; refine s_ex ?_; refine s_as ?_; refine s_as ?_; refine AtR_nil (At_seq (At_region ?_)); refine s_mv ?_; refine s_nt ?_; refine AtR_nil ?_; refine At_cond_t rfl ?_; refine At_seq ?_)
   have kd4 := Kp.drew (S := No) (w := w2.drew)
   let S : World → Prop := fun w' => Blk w' b6 40 (0, 0) (trC r (d : Int)) ∧ Seg w' b0 0 (blC l) ∧ b0 < w'.heap.size
   have hSk : ∀ {w w'}, S w → Kp No w w' → S w' := fun h k => ⟨h.1.kp k fun h => h, h.2.1.kp k (fun h => h) h.2.2, Nat.lt_of_lt_of_le h.2.2 k.size⟩
   have hS : S w2.drew.drew := hSk (w := w2.drew) ⟨B63, hseg3, Nat.lt_of_lt_of_le lb02 kd3.size⟩ kd4
   refine At_draw S rfl ?_
   (apply AtH_take 0 rfl (by decide +kernel) (by exact rfl); (focus (intro wx hx; skip; exact x_move (by conv => lhs; whnf))); (focus (exact hS)))
   (apply AtH_take 2 rfl (by decide +kernel) (by exact rfl); (focus (intro wx hx; skip; exact x_move (by conv => lhs; whnf))); (focus (exact hS)))
   (apply AtH_take 3 rfl (by decide +kernel) (by exact rfl); (focus (intro wx hx; skip; exact x_move (by conv => lhs; whnf))); (focus (exact hS)))
   refine AtH_take 1 rfl (by decide +kernel) (by exact rfl) (fun wx hx => x_load_all rfl hx.1 hl34) hS ?_
   refine AtH_take 4 rfl (by decide +kernel) (by exact rfl) (fun wx hx => x_indexAddr (s := 2) rfl rfl (by omega) (by omega)) hS ?_
   rw [Int.toNat_natCast]
   (apply AtH_take 5 rfl (by decide +kernel) (by exact rfl); (focus (intro wx hx; skip; exact x_fieldAddrN rfl (by first | exact Nat.zero_add _ | exact Nat.add_zero _ | (simp only [Nat.reduceAdd] <;> rfl) | exact rfl))); (focus (exact hS)))
   refine AtH_take 6 rfl (by decide +kernel) (by exact rfl) (fun wx hx => x_load_seg (off := 0) (j := k * 2) (by first | rfl | exact congrArg (fun o => Value.pointer (some ⟨b0, o, none⟩)) (by omega)) hx.2.1 g1) hS ?_
   refine AtH_take 7 rfl (by decide +kernel) (by exact rfl) (fun wx hx => x_add64 rfl rfl (by omega) (by omega)) hS ?_
   have hW4 := h3.kpn kd4
   refine AtH_call 8 rfl (by decide +kernel) (by exact rfl) x_call  (Get_calls g sp bo key name st r (d : Int) ((kk : Int) + 1) _ hW4.gr hW4.stt hr (by omega) (by omega)) ?_
   rw [hget2]
   rintro _ w5 ⟨k5, v2, rfl, hv2⟩
   have hS5 := hSk hS k5
   refine ⟨_, rfl, hS5, ?_⟩
   clear hS
   have hS := hS5
   obtain rfl : v2 = .slice none 0 0 := hv2
   (apply AtH_take 9 rfl (by decide +kernel) (by exact rfl); (focus (intro wx hx; skip; exact x_move (by conv => lhs; whnf))); (focus (exact hS)))
   (apply AtH_take 10 rfl (by decide +kernel) (by exact rfl); (focus (intro wx hx; skip; exact x_extract rfl rfl)); (focus (exact hS)))
   (apply AtH_take 11 rfl (by decide +kernel) (by exact rfl); (focus (intro wx hx; skip; exact x_extract rfl rfl)); (focus (exact hS)))
   (apply AtH_take 12 rfl (by decide +kernel) (by exact rfl); (focus (intro wx hx; skip; exact x_assign (by conv => lhs; whnf))); (focus (exact hS)))
   (apply AtH_take 13 rfl (by decide +kernel) (by exact rfl); (focus (intro wx hx; skip; exact x_assign (by conv => lhs; whnf))); (focus (exact hS)))
   refine AtH_done (by decide +kernel) ?_
   (refine At_seq (At_region ?_); refine s_mv ?_; refine s_neq ?_; refine s_mv ?_; refine s_yes rfl rfl rfl rfl ?_; refine g_mv ?_; refine s_yes rfl rfl rfl rfl ?_; refine g_ln ?_; refine s_yes rfl rfl rfl rfl ?_; refine g_neq ?_; refine s_pf ?_; refine AtR_nil ?_; refine At_cond_f rfl ?_; refine At_skip (At_inBlock (At_region ?_)); refine s_mv ?_; refine s_ad ?_; refine s_as ?_; refine AtR_nil ?_)
   exact again (k + 1) _ _ ⟨rfl, rfl, rfl, rfl, rfl, trivial⟩ ⟨hlt, hS.1, (K3.trans kd4).trans k5⟩ (by omega)
 have hke : k = l.length := by omega
 clear again
 obtain ⟨s1, s2, s3⟩ := hT.secT
 (refine At_seq (At_seq (At_region ?_)); refine s_mv ?_; refine s_mv ?_; refine s_ln ?_; refine s_lss ?_; refine AtR_nil ?_; refine At_cond_f rfl ?_; refine At_exit rfl ?_; refine At_seq (At_region ?_); refine s_mv ?_)
 refine s_val (x_load_all rfl B6 hl34) ?_
 refine s_call x_call (Sectors_calls g sp bo key name st r (d : Int) _ h1.gr h1.stt hr (by omega)) ?_
 generalize secT key name st r (d : Int) = X at *
 obtain ⟨cx, Sx⟩ := X
 simp only at s1 s2 ⊢
 subst s1
 rintro _ w2 ⟨k2, a2, cs, rfl, hos, _⟩
 refine ⟨_, rfl, ?_⟩
 have B62 := B6.kp k2 fun h => h
 have ho2 := ho1.kp k2 fun _ _ h => h
 have h2 := h1.kpn k2
 have hsl := hos.2.1
 (refine s_mv ?_; refine s_ex ?_; refine s_ex ?_; refine s_as ?_; refine s_as ?_; refine AtR_nil (At_seq (At_region ?_)); refine s_mv ?_; refine s_eql ?_; refine s_mv ?_; refine s_yes rfl rfl rfl rfl ?_; refine g_mv ?_; refine s_yes rfl rfl rfl rfl ?_; refine g_ln ?_; refine s_yes rfl rfl rfl rfl ?_; refine g_mv ?_; refine s_yes rfl rfl rfl rfl ?_; refine g_fa ?_)
 refine s_yes rfl rfl rfl rfl (g_val (x_load1 rfl B62 hdeep) ?_)
 refine s_yes rfl rfl rfl rfl ?_
 refine g_call x_call (countL_calls l d a cap _ ho2 (by omega) hd5 fun e he => by have := hkeys e he; omega) ?_
 rintro _ w3 ⟨rfl, k3⟩
 refine ⟨_, rfl, ?_⟩
 have h3 := h2.kpn k3
 (refine s_yes rfl rfl rfl rfl ?_; refine g_eql ?_; refine s_pt ?_; refine s_mv ?_; refine s_yes rfl rfl rfl rfl ?_; refine g_mv ?_)
 refine s_yes rfl rfl rfl rfl ?_
 refine g_call x_call (count_calls st sp _ h3.stt) ?_
 rintro _ _ ⟨rfl, rfl⟩
 refine ⟨_, rfl, ?_⟩
 (refine s_yes rfl rfl rfl rfl ?_; refine g_mv ?_; refine s_yes rfl rfl rfl rfl ?_; refine g_ln ?_; refine s_yes rfl rfl rfl rfl ?_; refine g_eql ?_; refine s_pt ?_; refine s_as ?_; refine AtR_nil ?_)
 refine At_ret1 Tryd.func59 rfl (by conv => lhs; whnf) ?_
 exact ⟨rfl, (K.trans k2).trans k3⟩
end Go.Proofs.YtfngacepjcdlnaaDoor
