/- Trees, plainly: blocks taken, a tree cut, a turn. Own work. | Trees, plainly: a whole cut, whole turns. Own work. | Trees, plainly: how many sectors blocks need. Own work. | Trees, plainly: what a cut leaves in any store. Own work. | Trees, plainly: blocks as a list in order of their numbers. Own work. -/
import Derived.Test.YtfngacepjcdlnaaDoorQTa
set_option linter.unusedVariables false
namespace Go.Mt
open Go Go.Kx Go.Proofs.YtfngacepjcdlnaaDoor
def remP (key name : List UInt8) : Nat → Nat → Pr → Nat → Ch → (Pr × Nat) × Ch
  | 0, fst, p, _, ch => if p.sec = 0 then ((p, 0), ch) else ((Pr.zero, 0), ch.lose p)
  | lv + 1, fst, p, i, ch =>
    if p.sec = 0 then ((p, 0), ch) else
    match ptsP key name ch.st p (lv + 1) fst with
    | none => ((Pr.zero, 13), ch)
    | some ps =>
      if (remP key name lv (fst + (i - fst) / roomN lv * roomN lv) (ps.getD ((i - fst) / roomN lv) Pr.zero) i ch).1.2 = 0 then
        if (remP key name lv (fst + (i - fst) / roomN lv * roomN lv) (ps.getD ((i - fst) / roomN lv) Pr.zero) i ch).1.1 = ps.getD ((i - fst) / roomN lv) Pr.zero then
          ((p, 0), (remP key name lv (fst + (i - fst) / roomN lv * roomN lv) (ps.getD ((i - fst) / roomN lv) Pr.zero) i ch).2)
        else ((remP key name lv (fst + (i - fst) / roomN lv * roomN lv) (ps.getD ((i - fst) / roomN lv) Pr.zero) i ch).2.lose p).node key name (lv + 1) fst (ps.set ((i - fst) / roomN lv) (remP key name lv (fst + (i - fst) / roomN lv * roomN lv) (ps.getD ((i - fst) / roomN lv) Pr.zero) i ch).1.1)
      else ((Pr.zero, (remP key name lv (fst + (i - fst) / roomN lv * roomN lv) (ps.getD ((i - fst) / roomN lv) Pr.zero) i ch).1.2), (remP key name lv (fst + (i - fst) / roomN lv * roomN lv) (ps.getD ((i - fst) / roomN lv) Pr.zero) i ch).2)
def Left (key name : List UInt8) (lv fst n : Nat) (ch : Ch) (S : List Nat) (f' : Nat → Option (List UInt8)) (R : (Pr × Nat) × Ch) : Prop :=
  ∃ N G, Step ch R.2 N G ∧ N.length ≤ n ∧ G.length ≤ n ∧
    ((R.1.2 = 0 ∧ ∃ S', Rep key name R.2.st lv fst R.1.1 f' S' ∧ ∀ a, S'.count a + G.count a = S.count a + N.count a) ∨ (R.1.2 = 12 ∧ R.2.st.room ≤ R.2.st.count))
theorem lose_st (ch : Ch) (p : Pr) : (ch.lose p).st = ch.st := by unfold Ch.lose; split <;> rfl
theorem rem_rep {key name : List UInt8} : ∀ {lv fst : Nat} {p : Pr} {i : Nat} {ch : Ch} {f : Nat → Option (List UInt8)} {S : List Nat}, Rep key name ch.st lv fst p f S → fst ≤ i → i < fst + roomN lv → ch.st.ok → Small ch (2 * lv + 2) →
    Left key name lv fst (lv + 1) ch S (upd f i none) (remP key name lv fst p i ch)
  | 0, fst, p, i, ch, f, S, h, h1, h2, ho, hsm => by
    obtain rfl : i = fst := by simp [roomN] at h2; omega
    rw [remP]
    split
    · rename_i h0
      obtain ⟨rfl, rfl, hf⟩ := h.sec0 h0
      exact ⟨[], [], Step.refl ch, by simp, by simp, .inl ⟨rfl, [], rep_zero key name ch.st fun j hj hj' => by unfold upd; split; rfl; exact hf j hj hj', fun a => rfl⟩⟩
    · rename_i h0
      have hl := Step.lose ch p
      have hS : S = hd p := by
        rcases h with ⟨rfl, _, rfl⟩ | ⟨b', h0, _, _, rfl⟩
        · rfl
        · simp [hd, h0]
      refine ⟨[], hd p, hl, by simp, hd_length p, .inl ⟨rfl, [], rep_zero key name _ fun j hj hj' => ?_, fun a => by rw [hS]; simp⟩⟩
      unfold upd
      rw [if_pos (by simp [roomN] at hj'; omega)]
  | lv + 1, fst, p, i, ch, f, S, h, h1, h2, ho, hsm => by
    rw [remP]
    by_cases h0 : p.sec = 0
    · rw [if_pos h0]
      obtain ⟨rfl, rfl, hf⟩ := h.sec0 h0
      exact ⟨[], [], Step.refl ch, by simp, by simp, .inl ⟨rfl, [], rep_zero key name ch.st fun j hj hj' => by unfold upd; split; rfl; exact hf j hj hj', fun a => rfl⟩⟩
    rw [if_neg h0]
    obtain ⟨ps, Ss, hp, h14, hk, rfl, hnz⟩ := h.kids
    rw [hp]
    simp only
    obtain ⟨k1, k2, k3⟩ := hold_lt h1 h2
    have hdl := hd_length p
    obtain ⟨N, G, s1, n1, g1, s2⟩ := rem_rep (hk _ k1) k2 k3 ho (hsm.mono (by omega))
    have hoth : ∀ j, fst ≤ j → (j - fst) / roomN lv ≠ (i - fst) / roomN lv → f j = upd f i none j := fun j _ e => by
      unfold upd
      rw [if_neg]
      rintro rfl
      exact e rfl
    generalize hr : remP key name lv (fst + (i - fst) / roomN lv * roomN lv) (ps.getD ((i - fst) / roomN lv) Pr.zero) i ch = res at *
    obtain ⟨⟨q, cq⟩, ch2⟩ := res
    simp only at s1 s2 ⊢
    rcases s2 with ⟨rfl, S', r1, r2⟩ | ⟨rfl, c2⟩
    · rw [if_pos rfl]
      have hs2 : Small ch2 2 := s1.small hsm (by omega) (by omega)
      have hext := s1.1
      have hkids : ∀ k, k < 14 → Rep key name ch2.st lv (fst + k * roomN lv) ((ps.set ((i - fst) / roomN lv) q).getD k Pr.zero) (upd f i none) (if k = (i - fst) / roomN lv then S' else Ss k) := by
        intro k hk'
        rw [getD_set _ _ _ _ (by omega)]
        by_cases e : k = (i - fst) / roomN lv
        · rw [if_pos e, if_pos e, e]; exact r1
        · rw [if_neg e, if_neg e]
          refine (hk k hk').sub (fun n _ b hb => hext.some ho hb) fun j hj hj' => ?_
          refine hoth j (by omega) fun e1 => e ?_
          rw [← e1]
          symm
          apply Nat.div_eq_of_lt_le
          · omega
          · rw [Nat.add_mul]; omega
      have hcnt : ∀ a, ((List.range 14).flatMap fun j => if j = (i - fst) / roomN lv then S' else Ss j).count a + G.count a = ((List.range 14).flatMap Ss).count a + N.count a := fun a => by
        have e2 := count_upd Ss ((i - fst) / roomN lv) S' a 14
        rw [if_pos k1, if_pos k1] at e2
        have e3 := r2 a
        omega
      by_cases he : q = ps.getD ((i - fst) / roomN lv) Pr.zero
      · rw [if_pos he]
        have hset : ps.set ((i - fst) / roomN lv) q = ps := by
          rw [he, getD_get (by omega)]
          exact List.set_getElem_self (by omega)
        rw [hset] at hkids
        refine ⟨N, G, s1, by omega, by omega, .inl ⟨rfl, p.sec :: (List.range 14).flatMap fun j => if j = (i - fst) / roomN lv then S' else Ss j, .inr ⟨ps, _, h0, ptsP_mono hp fun b hb => hext.some ho hb, h14, hnz h0, hkids, rfl⟩, fun a => ?_⟩⟩
        have e1 := hcnt a
        simp only [hd, if_neg h0, List.count_cons, List.count_append, List.count_nil]
        omega
      · rw [if_neg he]
        have hl := Step.lose ch2 p
        have hst := lose_st ch2 p
        obtain ⟨N2, t1, t2, t3⟩ := node_rep (key := key) (name := name) (ch := ch2.lose p) (lv := lv) (fst := fst) (ps := ps.set ((i - fst) / roomN lv) q) (f := upd f i none) (Ss := fun j => if j = (i - fst) / roomN lv then S' else Ss j) (by rw [List.length_set]; exact h14) (by rw [hst]; exact hext.ok ho) (hl.small hs2 (by simp) (by omega)) (by rw [hst]; exact hkids)
        refine ⟨N ++ ([] ++ N2), G ++ (hd p ++ []), s1.trans (hl.trans t1), by simp; omega, by simp; omega, ?_⟩
        rcases t3 with ⟨c1, S3, c2, c3⟩ | c1
        · refine .inl ⟨c1, S3, c2, fun a => ?_⟩
          have e1 := c3 a
          have e2 := hcnt a
          simp only [List.count_append, List.count_nil, List.nil_append]
          omega
        · exact .inr c1
    · rw [if_neg (by omega)]
      exact ⟨N, G, s1, by omega, by omega, .inr ⟨rfl, c2⟩⟩
def cutK (g : Nat → Pr → Ch → (Pr × Nat) × Ch) : Nat → List Pr → Ch → (List Pr × Nat) × Ch
  | 0, ps, ch => ((ps, 0), ch)
  | m + 1, ps, ch =>
    if (cutK g m ps ch).1.2 = 0 then
      (((cutK g m ps ch).1.1.set m (g m ((cutK g m ps ch).1.1.getD m Pr.zero) (cutK g m ps ch).2).1.1, (g m ((cutK g m ps ch).1.1.getD m Pr.zero) (cutK g m ps ch).2).1.2), (g m ((cutK g m ps ch).1.1.getD m Pr.zero) (cutK g m ps ch).2).2)
    else cutK g m ps ch
def cutP (key name : List UInt8) : Nat → Nat → Pr → Nat → Ch → (Pr × Nat) × Ch
  | 0, fst, p, n, ch => if p.sec = 0 ∨ fst + roomN 0 ≤ n then ((p, 0), ch) else ((Pr.zero, 0), ch.lose p)
  | lv + 1, fst, p, n, ch =>
    if p.sec = 0 ∨ fst + roomN (lv + 1) ≤ n then ((p, 0), ch) else
    match ptsP key name ch.st p (lv + 1) fst with
    | none => ((Pr.zero, 13), ch)
    | some ps =>
      if (cutK (fun k q c => cutP key name lv (fst + k * roomN lv) q n c) 14 ps ch).1.2 = 0 then
        if (cutK (fun k q c => cutP key name lv (fst + k * roomN lv) q n c) 14 ps ch).1.1 = ps then ((p, 0), (cutK (fun k q c => cutP key name lv (fst + k * roomN lv) q n c) 14 ps ch).2)
        else ((cutK (fun k q c => cutP key name lv (fst + k * roomN lv) q n c) 14 ps ch).2.lose p).node key name (lv + 1) fst (cutK (fun k q c => cutP key name lv (fst + k * roomN lv) q n c) 14 ps ch).1.1
      else ((Pr.zero, (cutK (fun k q c => cutP key name lv (fst + k * roomN lv) q n c) 14 ps ch).1.2), (cutK (fun k q c => cutP key name lv (fst + k * roomN lv) q n c) 14 ps ch).2)
def stp : Nat → Nat
  | 0 => 1
  | lv + 1 => 14 * stp lv + 2
def ahead (f : Nat → Option (List UInt8)) (n : Nat) : Nat → Option (List UInt8) := fun j => if j < n then f j else none
theorem cutK_rep {key name : List UInt8} {g : Nat → Pr → Ch → (Pr × Nat) × Ch} {lv fst : Nat} {ps : List Pr} {Ss : Nat → List Nat} {f f' : Nat → Option (List UInt8)} {ch : Ch} (h14 : ps.length = 14) (ho : ch.st.ok)
    (hk : ∀ k, k < 14 → Rep key name ch.st lv (fst + k * roomN lv) (ps.getD k Pr.zero) f (Ss k))
    (hg : ∀ k c, k < 14 → Rep key name c.st lv (fst + k * roomN lv) (ps.getD k Pr.zero) f (Ss k) → c.st.ok → Small c (stp lv) → Left key name lv (fst + k * roomN lv) (stp lv) c (Ss k) f' (g k (ps.getD k Pr.zero) c)) :
    ∀ m, m ≤ 14 → Small ch (m * stp lv) → ∃ N G, Step ch (cutK g m ps ch).2 N G ∧ N.length ≤ m * stp lv ∧ G.length ≤ m * stp lv ∧
      (((cutK g m ps ch).1.2 = 0 ∧ (cutK g m ps ch).1.1.length = 14 ∧ (∀ k, m ≤ k → (cutK g m ps ch).1.1.getD k Pr.zero = ps.getD k Pr.zero) ∧
        ∃ Ss', (∀ k, k < m → Rep key name (cutK g m ps ch).2.st lv (fst + k * roomN lv) ((cutK g m ps ch).1.1.getD k Pr.zero) f' (Ss' k)) ∧ ∀ a, ((List.range m).flatMap Ss').count a + G.count a = ((List.range m).flatMap Ss).count a + N.count a) ∨
       ((cutK g m ps ch).1.2 = 12 ∧ (cutK g m ps ch).2.st.room ≤ (cutK g m ps ch).2.st.count))
  | 0, _, _ => ⟨[], [], Step.refl ch, by simp, by simp, .inl ⟨rfl, h14, fun _ _ => rfl, fun _ => [], fun k hk => absurd hk (Nat.not_lt_zero k), fun a => rfl⟩⟩
  | m + 1, hm, hsm => by
    have hmul : (m + 1) * stp lv = m * stp lv + stp lv := by rw [Nat.add_mul, Nat.one_mul]
    obtain ⟨N, G, s1, n1, g1, s2⟩ := cutK_rep h14 ho hk hg m (by omega) (hsm.mono (by omega))
    rw [cutK]
    generalize cutK g m ps ch = res at *
    obtain ⟨⟨qs, cq⟩, ch2⟩ := res
    simp only at s1 s2 ⊢
    rcases s2 with ⟨rfl, l14, r1, Ss', r2, r3⟩ | ⟨rfl, c2⟩
    · rw [if_pos rfl, r1 m (Nat.le_refl _)]
      obtain ⟨N2, G2, t1, n2, g2, t2⟩ := hg m ch2 (by omega) ((hk m (by omega)).sub (fun n _ b hb => s1.1.some ho hb) fun _ _ _ => rfl) (s1.1.ok ho) (s1.small hsm (by omega) (by omega))
      generalize g m (ps.getD m Pr.zero) ch2 = res at *
      obtain ⟨⟨q, c⟩, ch3⟩ := res
      simp only at t1 t2 ⊢
      refine ⟨N ++ N2, G ++ G2, s1.trans t1, by simp; omega, by simp; omega, ?_⟩
      rcases t2 with ⟨c1, S', c2, c3⟩ | c1
      · refine .inl ⟨c1, by rw [List.length_set]; exact l14, fun k hk' => ?_, fun j => if j = m then S' else Ss' j, fun k hk' => ?_, fun a => ?_⟩
        · rw [getD_set _ _ _ _ (by omega), if_neg (by omega)]; exact r1 k (by omega)
        · show Rep key name ch3.st lv (fst + k * roomN lv) ((qs.set m q).getD k Pr.zero) f' (if k = m then S' else Ss' k)
          rw [getD_set _ _ _ _ (by omega)]
          by_cases e : k = m
          · rw [if_pos e, if_pos e, e]; exact c2
          · rw [if_neg e, if_neg e]
            exact (r2 k (by omega)).sub (fun n _ b hb => t1.1.some (s1.1.ok ho) hb) fun _ _ _ => rfl
        · have e1 := count_upd Ss' m S' a m
          rw [if_neg (Nat.lt_irrefl _), if_neg (Nat.lt_irrefl _)] at e1
          have e2 := r3 a
          have e3 := c3 a
          rw [List.range_succ, List.flatMap_append, List.flatMap_append]
          simp only [List.flatMap_cons, List.flatMap_nil, List.append_nil, List.count_append, if_true]
          omega
      · exact .inr c1
    · rw [if_neg (by omega)]
      exact ⟨N, G, s1, by omega, by omega, .inr ⟨rfl, c2⟩⟩
theorem cut_rep {key name : List UInt8} {n : Nat} : ∀ {lv fst : Nat} {p : Pr} {ch : Ch} {f : Nat → Option (List UInt8)} {S : List Nat}, Rep key name ch.st lv fst p f S → ch.st.ok → Small ch (stp lv) →
    Left key name lv fst (stp lv) ch S (ahead f n) (cutP key name lv fst p n ch)
  | lv, fst, p, ch, f, S, h, ho, hsm => by
    have h1 : 1 ≤ stp lv := by cases lv <;> simp [stp]
    by_cases h0 : p.sec = 0 ∨ fst + roomN lv ≤ n
    · have e : cutP key name lv fst p n ch = ((p, 0), ch) := by cases lv <;> (rw [cutP]; exact if_pos h0)
      rw [e]
      refine ⟨[], [], Step.refl ch, by simp, by simp, .inl ⟨rfl, S, ?_, fun a => rfl⟩⟩
      rcases h0 with h0 | h0
      · obtain ⟨rfl, rfl, hf⟩ := h.sec0 h0
        exact rep_zero key name ch.st fun j hj hj' => by unfold ahead; split; exact hf j hj hj'; rfl
      · exact h.sub (fun _ _ _ hb => hb) fun j hj hj' => by unfold ahead; rw [if_pos (by omega)]
    have hp0 : p.sec ≠ 0 := fun e => h0 (.inl e)
    cases lv with
    | zero =>
      rw [cutP, if_neg h0]
      have hl := Step.lose ch p
      have hS : S = hd p := by
        rcases h with ⟨rfl, _, rfl⟩ | ⟨b', h0, _, _, rfl⟩
        · rfl
        · simp [hd, h0]
      refine ⟨[], hd p, hl, by simp, by have := hd_length p; omega, .inl ⟨rfl, [], rep_zero key name _ fun j hj hj' => ?_, fun a => by rw [hS]; simp⟩⟩
      unfold ahead
      simp only [roomN] at hj' h0
      rw [if_neg (by omega)]
    | succ lv =>
      rw [cutP, if_neg h0]
      obtain ⟨ps, Ss, hp, h14, hk, rfl, hnz⟩ := h.kids
      rw [hp]
      simp only
      have hstp : stp (lv + 1) = 14 * stp lv + 2 := rfl
      obtain ⟨N, G, s1, n1, g1, s2⟩ := cutK_rep (key := key) (name := name) (g := fun k q c => cutP key name lv (fst + k * roomN lv) q n c) (f' := ahead f n) h14 ho hk (fun k c hk' hr hoc hsc => cut_rep hr hoc hsc) 14 (Nat.le_refl _) (hsm.mono (by omega))
      generalize cutK (fun k q c => cutP key name lv (fst + k * roomN lv) q n c) 14 ps ch = res at *
      obtain ⟨⟨qs, cq⟩, ch2⟩ := res
      simp only at s1 s2 ⊢
      rcases s2 with ⟨rfl, l14, r1, Ss', r2, r3⟩ | ⟨rfl, c2⟩
      · rw [if_pos rfl]
        by_cases he : qs = ps
        · rw [if_pos he]
          rw [he] at r2
          refine ⟨N, G, s1, by omega, by omega, .inl ⟨rfl, p.sec :: (List.range 14).flatMap Ss', .inr ⟨ps, _, hp0, ptsP_mono hp fun b hb => s1.1.some ho hb, h14, hnz hp0, r2, rfl⟩, fun a => ?_⟩⟩
          have e1 := r3 a
          simp only [hd, if_neg hp0, List.count_cons, List.count_append, List.count_nil]
          omega
        · rw [if_neg he]
          have hl := Step.lose ch2 p
          have hst := lose_st ch2 p
          have hdl := hd_length p
          have hs2 : Small ch2 2 := s1.small hsm (by omega) (by omega)
          obtain ⟨N2, t1, t2, t3⟩ := node_rep (key := key) (name := name) (ch := ch2.lose p) (lv := lv) (fst := fst) (ps := qs) (f := ahead f n) (Ss := Ss') l14 (by rw [hst]; exact s1.1.ok ho) (hl.small hs2 (by simp) (by omega)) (by rw [hst]; exact r2)
          refine ⟨N ++ ([] ++ N2), G ++ (hd p ++ []), s1.trans (hl.trans t1), by simp; omega, by simp; omega, ?_⟩
          rcases t3 with ⟨c1, S3, c2, c3⟩ | c1
          · refine .inl ⟨c1, S3, c2, fun a => ?_⟩
            have e1 := c3 a
            have e2 := r3 a
            simp only [List.count_append, List.count_nil, List.nil_append]
            omega
          · exact .inr c1
      · rw [if_neg (by omega)]
        exact ⟨N, G, s1, by omega, by omega, .inr ⟨rfl, c2⟩⟩
termination_by lv => lv
end Go.Mt
namespace Go.Mt
open Go Go.Kx Go.Proofs.YtfngacepjcdlnaaDoor
theorem stp_le : ∀ {lv : Nat}, lv ≤ 5 → stp lv ≤ 620566
  | 0, _ => by decide
  | 1, _ => by decide
  | 2, _ => by decide
  | 3, _ => by decide
  | 4, _ => by decide
  | 5, _ => by decide
def cutT (key name : List UInt8) (st : St) (r : Pr) (d n : Nat) : (Pr × Nat) × Ch := cutP key name d 0 r n ⟨st, [], []⟩
def cutS (key name : List UInt8) (st : St) (r : Pr) (d n : Nat) : St := dropAll (cutT key name st r d n).2.st ((cutT key name st r d n).2.goes (cutT key name st r d n).1.2)
theorem set_count_le : ∀ (l : List Bool) (i : Nat), (l.set i false).count true ≤ l.count true
  | [], _ => by simp
  | a :: l, 0 => by simp [List.count_cons]
  | a :: l, i + 1 => by
    have := set_count_le l i
    simp only [List.set_cons_succ, List.count_cons]
    omega
theorem drop_cnt (st : St) (n : Nat) : (st.drop n).count ≤ st.count := by
  unfold St.drop
  split
  · exact set_count_le _ _
  · exact Nat.le_refl _
theorem dropAll_cnt : ∀ (l : List Nat) (st : St), (dropAll st l).count ≤ st.count
  | [], _ => Nat.le_refl _
  | n :: l, st => Nat.le_trans (dropAll_cnt l (st.drop n)) (drop_cnt st n)
theorem end_cnt {st : St} {ch : Ch} {N G : List Nat} (hs : Step ⟨st, [], []⟩ ch N G) (hr : st.count ≤ st.room) (l : List Nat) : (dropAll ch.st l).count ≤ st.room :=
  Nat.le_trans (dropAll_cnt l ch.st) (by have := hs.1.le; simp only at this; omega)
theorem end_all {st : St} {ch : Ch} {N G S X : List Nat} {cd : Nat} (hs : Step ⟨st, [], []⟩ ch N G) (hH : Held st (S ++ X)) (hr : st.count ≤ st.room) :
    (∀ n ∈ X, ∀ x, st.at n = some x → cd ≠ 0 → (dropAll ch.st (ch.goes cd)).at n = some x) ∧ (dropAll ch.st (ch.goes cd)).b.length ≤ st.b.length + st.room ∧ (dropAll ch.st (ch.goes cd)).room = st.room ∧
      (cd ≠ 0 → Held (dropAll ch.st (ch.goes cd)) (S ++ X) ∧ ∀ n x, st.at n = some x → (dropAll ch.st (ch.goes cd)).at n = some x) := by
  have h2 := dropAll_b (ch.goes cd) ch.st
  have h3 := hs.1.len
  have h4 := hs.1.count
  have h5 := hs.1.room
  have h6 := hs.1.le
  simp only at h3 h4 h5 h6
  have hno : cd ≠ 0 → Held (dropAll ch.st (ch.goes cd)) (S ++ X) ∧ ∀ n x, st.at n = some x → (dropAll ch.st (ch.goes cd)).at n = some x := fun hc => by
    have hgo : ch.goes cd = ch.saved := by unfold Ch.goes; rw [if_neg hc]
    rw [hgo]
    exact end_no hs hH
  exact ⟨fun n _ x hx hc => (hno hc).2 n x hx, by rw [h2.1]; omega, by rw [h2.2, h5], hno⟩
theorem Left.step {key name : List UInt8} {lv fst n : Nat} {ch : Ch} {S : List Nat} {f' : Nat → Option (List UInt8)} {R : (Pr × Nat) × Ch} (h : Left key name lv fst n ch S f' R) : ∃ N G, Step ch R.2 N G ∧ N.length ≤ n ∧ G.length ≤ n := by
  obtain ⟨N, G, h1, h2, h3, _⟩ := h; exact ⟨N, G, h1, h2, h3⟩
theorem held_lt {st : St} {L : List Nat} (h : Held st L) : ∀ n ∈ L, ∃ b, st.at n = some b := fun n hn => by
  have := h.2 n
  have h2 := List.count_pos_iff.2 hn
  exact one_pos (by omega)
theorem ahead_out {f : Nat → Option (List UInt8)} {n m : Nat} (h : ∀ j, m ≤ j → f j = none) : ∀ j, m ≤ j → ahead f n j = none := fun j hj => by unfold ahead; split; exact h j hj; rfl
theorem upd_out {f : Nat → Option (List UInt8)} {i m : Nat} {x : Option (List UInt8)} (h : ∀ j, m ≤ j → f j = none) (hi : i < m ∨ x = none) : ∀ j, m ≤ j → upd f i x j = none := fun j hj => by
  unfold upd; split
  · rename_i e; rcases hi with h | h
    · omega
    · exact h
  · exact h j hj
structure Done (key name : List UInt8) (st : St) (S X : List Nat) (f' : Nat → Option (List UInt8)) (r : Pr) (d cd : Nat) (st2 : St) : Prop where
  keep : ∀ n ∈ X, ∀ x, st.at n = some x → st2.at n = some x
  len : st2.b.length ≤ st.b.length + st.room
  room : st2.room = st.room
  cnt : st2.count ≤ st.room
  res : (cd = 0 ∧ ∃ S', Tree key name st2 r d f' S' ∧ Held st2 (S' ++ X)) ∨ (cd = 12 ∧ Held st2 (S ++ X) ∧ ∀ n x, st.at n = some x → st2.at n = some x)
theorem done_of {key name : List UInt8} {st : St} {ch : Ch} {N G S X : List Nat} {f' : Nat → Option (List UInt8)} {r : Pr} {d cd : Nat} (hs : Step ⟨st, [], []⟩ ch N G) (hH : Held st (S ++ X)) (hr : st.count ≤ st.room) (hd5 : cd = 0 → d ≤ 5) (hout : cd = 0 → ∀ j, roomN d ≤ j → f' j = none)
    (h : (cd = 0 ∧ ∃ S', Rep key name ch.st d 0 r f' S' ∧ ∀ a, S'.count a + G.count a = S.count a + N.count a) ∨ cd = 12) : Done key name st S X f' r d cd (dropAll ch.st (ch.goes cd)) := by
  have ha := end_all (cd := cd) hs hH hr
  rcases h with ⟨rfl, S', u1, u2⟩ | rfl
  · have he := end_ok (S' := S') hs hH u2
    have hgo : ch.goes 0 = ch.gone := rfl
    rw [hgo] at ha ⊢
    refine ⟨fun n hn x hx => ?_, ha.2.1, ha.2.2.1, end_cnt hs hr _, .inl ⟨rfl, S', ⟨u1.sub (fun n hn b' hb' => ?_) fun _ _ _ => rfl, hd5 rfl, hout rfl⟩, he.1⟩⟩
    · rw [he.2.1 n (List.mem_append_right _ hn), he.2.2 n hn]; exact hx
    · rw [he.2.1 n (List.mem_append_left _ hn)]; exact hb'
  · have h := ha.2.2.2 (by omega)
    exact ⟨fun n hn x hx => h.2 n x hx, ha.2.1, ha.2.2.1, end_cnt hs hr _, .inr ⟨rfl, h⟩⟩
theorem cutT_rep {key name : List UInt8} {st : St} {r : Pr} {d n : Nat} {f : Nat → Option (List UInt8)} {S X : List Nat} (ht : Tree key name st r d f S) (hH : Held st (S ++ X)) (hr : st.count ≤ st.room) (hb : st.b.length ≤ 300000) :
    Done key name st S X (ahead f n) (cutT key name st r d n).1.1 d (cutT key name st r d n).1.2 (cutS key name st r d n) := by
  have hst := stp_le ht.le
  obtain ⟨N, G, s1, _, _, s2⟩ := cut_rep (key := key) (name := name) (n := n) (ch := ⟨st, [], []⟩) ht.rep hH.1 ⟨by simp only; omega, by simp; omega, by simp; omega⟩
  exact done_of s1 hH hr (fun _ => ht.le) (fun _ => ahead_out ht.out) (s2.imp id And.left)
theorem putT_done {key name : List UInt8} {st : St} {r : Pr} {d i : Nat} {b : List UInt8} {f : Nat → Option (List UInt8)} {S X : List Nat} (ht : Tree key name st r d f S) (hH : Held st (S ++ X)) (hi : i < roomN 5) (hr : st.count ≤ st.room) (hb : st.b.length ≤ 999000) :
    Done key name st S X (upd f i (some b)) (putT key name st r d i b).1.1 (putT key name st r d i b).1.2.1 (putT key name st r d i b).1.2.2 (putS key name st r d i b) := by
  obtain ⟨h1, h2, h3, h4⟩ := putT_rep (b := b) ht hH hi hb
  have hl : (putS key name st r d i b).b.length ≤ st.b.length + st.room ∧ (putS key name st r d i b).count ≤ st.room := by
    have hdeep := deep_rep (key := key) (name := name) hi (u := 5 - d) (d := d) (r := r) (ch := ⟨st, [], []⟩) (f := f) (S := S) (by have := ht.le; omega) ht.rep ht.out hH.1 ⟨by simp only; omega, by simp; omega, by simp; omega⟩
    unfold putS putT
    generalize deepP key name i (5 - d) d r ⟨st, [], []⟩ = D at *
    obtain ⟨⟨r', d', c⟩, ch⟩ := D
    simp only at hdeep ⊢
    obtain ⟨N, s1, n1, s2⟩ := hdeep
    rcases s2 with ⟨rfl, S1, r1, r2, r3, r4, r5, r6⟩ | ⟨rfl, c2⟩
    · simp only [if_true]
      obtain ⟨N2, G2, t1, _⟩ := put_rep (b := b) r1 (Nat.zero_le i) (by omega) (s1.1.ok hH.1) (by
        have h1 := s1.1.len
        have h2 := s1.2.1
        have h3 := s1.2.2
        simp only [List.nil_append] at h2 h3 h1
        exact ⟨by omega, by rw [h2]; omega, by rw [h3]; simp; omega⟩)
      exact ⟨(end_all (s1.trans t1) hH hr).2.1, end_cnt (s1.trans t1) hr _⟩
    · simp only [show ¬ (12 : Nat) = 0 by omega, if_false]
      exact ⟨(end_all s1 hH hr).2.1, end_cnt s1 hr _⟩
  refine ⟨h1, hl.1, h3, hl.2, ?_⟩
  rcases h4 with ⟨c, S', a1, a2, _⟩ | ⟨c, a1, a2, _⟩
  · exact .inl ⟨c, S', a1, a2⟩
  · exact .inr ⟨c, a1, a2⟩
def turnP (key name : List UInt8) (r : Pr) (d i : Nat) (b : List UInt8) (ch : Ch) : (Pr × Nat × Nat) × Ch :=
  if b = [] then
    if i < roomN d then (((remP key name d 0 r i ch).1.1, d, (remP key name d 0 r i ch).1.2), (remP key name d 0 r i ch).2) else ((r, d, 0), ch)
  else if (deepP key name i (5 - d) d r ch).1.2.2 = 0 then
    (((putP key name (deepP key name i (5 - d) d r ch).1.2.1 0 (deepP key name i (5 - d) d r ch).1.1 i b (deepP key name i (5 - d) d r ch).2).1.1, (deepP key name i (5 - d) d r ch).1.2.1,
      (putP key name (deepP key name i (5 - d) d r ch).1.2.1 0 (deepP key name i (5 - d) d r ch).1.1 i b (deepP key name i (5 - d) d r ch).2).1.2),
      (putP key name (deepP key name i (5 - d) d r ch).1.2.1 0 (deepP key name i (5 - d) d r ch).1.1 i b (deepP key name i (5 - d) d r ch).2).2)
  else deepP key name i (5 - d) d r ch
def opt (b : List UInt8) : Option (List UInt8) := if b = [] then none else some b
def LeftT (key name : List UInt8) (ch : Ch) (S : List Nat) (f' : Nat → Option (List UInt8)) (n : Nat) (R : (Pr × Nat × Nat) × Ch) : Prop :=
  ∃ N G, Step ch R.2 N G ∧ N.length ≤ n ∧ G.length ≤ n ∧
    ((R.1.2.2 = 0 ∧ R.1.2.1 ≤ 5 ∧ (∀ j, roomN R.1.2.1 ≤ j → f' j = none) ∧ ∃ S', Rep key name R.2.st R.1.2.1 0 R.1.1 f' S' ∧ ∀ a, S'.count a + G.count a = S.count a + N.count a) ∨ R.1.2.2 = 12)
theorem turn_rep {key name : List UInt8} {ch : Ch} {r : Pr} {d i : Nat} {b : List UInt8} {f : Nat → Option (List UInt8)} {S : List Nat} (h : Rep key name ch.st d 0 r f S) (hd : d ≤ 5) (hf : ∀ j, roomN d ≤ j → f j = none) (ho : ch.st.ok) (hi : i < roomN 5) (hsm : Small ch 24) :
    LeftT key name ch S (upd f i (opt b)) 12 (turnP key name r d i b ch) := by
  unfold turnP opt
  by_cases hb : b = []
  · rw [if_pos hb, if_pos hb]
    by_cases hlt : i < roomN d
    · rw [if_pos hlt]
      obtain ⟨N, G, s1, n1, g1, s2⟩ := rem_rep (key := key) (name := name) h (Nat.zero_le i) (by omega) ho (hsm.mono (by omega))
      refine ⟨N, G, s1, by omega, by omega, ?_⟩
      rcases s2 with ⟨c, S', a1, a2⟩ | ⟨c, _⟩
      · exact .inl ⟨c, hd, upd_out hf (.inr rfl), S', a1, a2⟩
      · exact .inr c
    · rw [if_neg hlt]
      refine ⟨[], [], Step.refl ch, by simp, by simp, .inl ⟨rfl, hd, upd_out hf (.inr rfl), S, h.sub (fun _ _ _ hb => hb) fun j _ hj => ?_, fun a => rfl⟩⟩
      unfold upd
      rw [if_neg (by omega)]
  · rw [if_neg hb, if_neg hb]
    have hdeep := deep_rep (key := key) (name := name) hi (u := 5 - d) (d := d) (r := r) (ch := ch) (f := f) (S := S) (by omega) h hf ho (hsm.mono (by omega))
    generalize deepP key name i (5 - d) d r ch = D at *
    obtain ⟨⟨r', d', c⟩, ch2⟩ := D
    simp only at hdeep ⊢
    obtain ⟨N, s1, n1, s2⟩ := hdeep
    rcases s2 with ⟨rfl, S1, r1, r2, r3, r4, r5, r6⟩ | ⟨rfl, c2⟩
    · simp only [if_true]
      obtain ⟨N2, G2, t1, n2, g2, t2⟩ := put_rep (b := b) r1 (Nat.zero_le i) (by omega) (s1.1.ok ho) (s1.small hsm (by omega) (by simp; omega))
      refine ⟨N ++ N2, [] ++ G2, s1.trans t1, by simp; omega, by simp; omega, ?_⟩
      rcases t2 with ⟨c, S', a1, a2⟩ | ⟨c, _⟩
      · refine .inl ⟨c, r4, upd_out r6 (.inl r3), S', a1, fun a => ?_⟩
        have e1 := a2 a
        have e2 := r2 a
        simp only [List.count_append, List.nil_append]
        omega
      · exact .inr c
    · simp only [show ¬ (12 : Nat) = 0 by omega, if_false]
      exact ⟨N, [], s1, by omega, by simp, .inr (by trivial)⟩
end Go.Mt
namespace Go.Mt
open Go Go.Kx Go.Proofs.YtfngacepjcdlnaaDoor
def sumN (g : Nat → Nat) : Nat → Nat
  | 0 => 0
  | m + 1 => sumN g m + g m
theorem sumN_congr {g h : Nat → Nat} : ∀ {m : Nat}, (∀ k, k < m → g k = h k) → sumN g m = sumN h m
  | 0, _ => rfl
  | m + 1, e => by rw [sumN, sumN, sumN_congr fun k hk => e k (by omega), e m (by omega)]
theorem sumN_pos {g : Nat → Nat} {k : Nat} (h : 0 < g k) : ∀ {m : Nat}, k < m → 0 < sumN g m
  | m + 1, hm => by
    rw [sumN]
    by_cases e : k = m
    · subst e; omega
    · have := sumN_pos h (m := m) (by omega); omega
theorem flatMap_len (Ss : Nat → List Nat) : ∀ m, ((List.range m).flatMap Ss).length = sumN (fun k => (Ss k).length) m
  | 0 => rfl
  | m + 1 => by rw [List.range_succ, List.flatMap_append, List.length_append, flatMap_len Ss m, sumN]; simp
def cnt (f : Nat → Option (List UInt8)) : Nat → Nat → Nat
  | 0, fst => if (f fst).isSome = true then 1 else 0
  | lv + 1, fst => if sumN (fun k => cnt f lv (fst + k * roomN lv)) 14 = 0 then 0 else sumN (fun k => cnt f lv (fst + k * roomN lv)) 14 + 1
theorem Rep.len {key name : List UInt8} {st : St} : ∀ {lv fst : Nat} {p : Pr} {f : Nat → Option (List UInt8)} {S : List Nat}, Rep key name st lv fst p f S → S.length = cnt f lv fst
  | 0, fst, p, f, S, h => by
    rw [cnt]
    rcases h with ⟨rfl, h1, rfl⟩ | ⟨b, h0, h1, h2, rfl⟩
    · rw [h1]; rfl
    · rw [h2]; rfl
  | lv + 1, fst, p, f, S, h => by
    obtain ⟨ps, Ss, hp, h14, hk, hS, hnz⟩ := h.kids
    have hsum : sumN (fun k => cnt f lv (fst + k * roomN lv)) 14 = ((List.range 14).flatMap Ss).length := by
      rw [flatMap_len]
      exact sumN_congr fun k hk' => ((hk k hk').len).symm
    rw [cnt, hsum]
    by_cases h0 : p.sec = 0
    · have h1 := (h.sec0 h0).2.1
      rw [h1] at hS ⊢
      have := (List.append_eq_nil_iff.1 hS.symm).2
      rw [this]; rfl
    · have hne : ((List.range 14).flatMap Ss).length ≠ 0 := by
        intro hl
        apply hnz h0
        have hz : ∀ k, k < 14 → ps.getD k Pr.zero = Pr.zero := fun k hk' => by
          have h1 := hk k hk'
          have h2 : Ss k = [] := by
            have := List.flatMap_eq_nil_iff.1 (List.eq_nil_of_length_eq_zero hl) k (List.mem_range.2 hk')
            exact this
          have h3 : (ps.getD k Pr.zero).sec = 0 := by
            rw [h2] at h1
            cases lv with
            | zero =>
              rcases h1 with ⟨h1, _⟩ | ⟨b, _, _, _, h1⟩
              · rw [h1]; rfl
              · cases h1
            | succ lv =>
              rcases h1 with ⟨h1, _⟩ | ⟨qs, Ts, _, _, _, _, _, h1⟩
              · rw [h1]; rfl
              · cases h1
          exact (h1.sec0 h3).1
        apply List.ext_getElem h14
        intro k h1 h2
        rw [← getD_get h1, hz k (by omega)]
        exact (List.eq_of_mem_replicate (List.getElem_mem h2)).symm
      rw [if_neg hne, hS, List.length_append]
      simp [hd, h0]; omega
def runs (m : Nat) : Option Nat → List Nat → Nat
  | _, [] => 0
  | last, x :: xs => (if last = some (x / m) then 0 else 1) + runs m (some (x / m)) xs
theorem runs_free {m : Nat} {z : Nat} : ∀ {xs : List Nat}, (∀ x ∈ xs, x / m ≠ z) → runs m (some z) xs = runs m none xs
  | [], _ => rfl
  | x :: xs, h => by
    rw [runs, runs, if_neg (fun e => h x (List.mem_cons_self ..) (Option.some.inj e).symm), if_neg (by simp)]
theorem runs_app {m : Nat} : ∀ {last : Option Nat} {xs ys : List Nat}, (∀ x ∈ xs, ∀ y ∈ ys, x / m ≠ y / m) → (∀ z, last = some z → ∀ y ∈ ys, y / m ≠ z) → runs m last (xs ++ ys) = runs m last xs + runs m none ys
  | last, [], ys, h, hl => by
    cases last with
    | none => simp [runs]
    | some z => rw [List.nil_append, runs_free (hl z rfl)]; simp [runs]
  | last, x :: xs, ys, h, hl => by
    rw [List.cons_append, runs, runs, runs_app (fun a ha => h a (List.mem_cons_of_mem _ ha)) fun z hz y hy e => h x (List.mem_cons_self ..) y hy (by rw [e]; exact (Option.some.inj hz))]
    omega
theorem runs_same {m z : Nat} : ∀ {xs : List Nat}, (∀ x ∈ xs, x / m = z) → runs m (some z) xs = 0
  | [], _ => rfl
  | x :: xs, h => by
    have e := h x (List.mem_cons_self ..)
    rw [runs, e, if_pos rfl, runs_same fun y hy => h y (List.mem_cons_of_mem _ hy)]
def tot : Nat → List Nat → Nat
  | 0, xs => runs (roomN 0) none xs
  | d + 1, xs => runs (roomN (d + 1)) none xs + tot d xs
theorem room_dvd {d e : Nat} (h : d ≤ e) : roomN d ∣ roomN e := Nat.pow_dvd_pow 14 h
theorem tot_app {c : Nat} {xs ys : List Nat} (hx : ∀ x ∈ xs, x < c) (hy : ∀ y ∈ ys, c ≤ y) : ∀ d, roomN d ∣ c → tot d (xs ++ ys) = tot d xs + tot d ys := by
  have key1 : ∀ d, roomN d ∣ c → runs (roomN d) none (xs ++ ys) = runs (roomN d) none xs + runs (roomN d) none ys := fun d hd => by
    refine runs_app (fun x h1 y h2 => ?_) fun z hz => by cases hz
    obtain ⟨t, rfl⟩ := hd
    have e1 : x / roomN d < t := Nat.div_lt_of_lt_mul (hx x h1)
    have e2 : t ≤ y / roomN d := (Nat.le_div_iff_mul_le (roomN_pos d)).2 (by rw [Nat.mul_comm]; exact hy y h2)
    omega
  intro d
  induction d with
  | zero => exact fun hd => key1 0 hd
  | succ d ih =>
    intro hd
    rw [tot, tot, tot, key1 (d + 1) hd, ih (Nat.dvd_trans (room_dvd (by omega)) hd)]
    omega
theorem sorted_split (c : Nat) : ∀ {xs : List Nat}, xs.Pairwise (· < ·) → xs = xs.filter (fun x => decide (x < c)) ++ xs.filter (fun x => decide (c ≤ x))
  | [], _ => rfl
  | x :: xs, h => by
    obtain ⟨h1, h2⟩ := List.pairwise_cons.1 h
    by_cases hx : x < c
    · rw [List.filter_cons_of_pos (by simpa using hx), List.filter_cons_of_neg (by simpa using hx), List.cons_append, ← sorted_split c h2]
    · have e : xs.filter (fun x => decide (x < c)) = [] := List.filter_eq_nil_iff.2 fun y hy => by have := h1 y hy; simp; omega
      have e2 : xs.filter (fun x => decide (c ≤ x)) = xs := List.filter_eq_self.2 fun y hy => by have := h1 y hy; simp; omega
      rw [List.filter_cons_of_neg (by simpa using hx), List.filter_cons_of_pos (by simp; omega), e, e2]; rfl
theorem tot_nil : ∀ d, tot d [] = 0
  | 0 => rfl
  | d + 1 => by rw [tot, tot_nil d]; rfl
theorem tot_cnt {f : Nat → Option (List UInt8)} : ∀ {lv fst : Nat} {xs : List Nat}, roomN lv ∣ fst → xs.Pairwise (· < ·) → (∀ x, x ∈ xs ↔ fst ≤ x ∧ x < fst + roomN lv ∧ (f x).isSome = true) → tot lv xs = cnt f lv fst
  | 0, fst, xs, hd, hs, hm => by
    rw [tot, cnt]
    have h1 : ∀ x ∈ xs, x = fst := fun x hx => by have := (hm x).1 hx; simp [roomN] at this; omega
    by_cases hf : (f fst).isSome = true
    · rw [if_pos hf]
      have hin := (hm fst).2 ⟨Nat.le_refl _, by simp [roomN], hf⟩
      match xs, hs, h1, hin with
      | [x], _, _, _ => simp [runs]
      | x :: y :: zs, hs, h1, _ =>
        have e1 := h1 x (by simp)
        have e2 := h1 y (by simp)
        have e3 := (List.pairwise_cons.1 hs).1 y (by simp)
        omega
    · rw [if_neg hf]
      match xs, hm, h1 with
      | [], _, _ => rfl
      | x :: zs, hm, h1 =>
        have e1 := h1 x (by simp)
        have e2 := ((hm x).1 (by simp)).2.2
        rw [e1] at e2
        exact absurd e2 hf
  | lv + 1, fst, xs, hd, hs, hm => by
    have hseg : ∀ m, m ≤ 14 → tot lv (xs.filter fun x => decide (x < fst + m * roomN lv)) = sumN (fun k => cnt f lv (fst + k * roomN lv)) m := by
      intro m
      induction m with
      | zero =>
        intro _
        rw [List.filter_eq_nil_iff.2 fun x hx => by have := (hm x).1 hx; simp; omega]
        exact tot_nil lv
      | succ m ih =>
        intro hm14
        have hd2 : roomN lv ∣ fst + m * roomN lv := Nat.dvd_add (Nat.dvd_trans (room_dvd (by omega)) hd) (Nat.dvd_mul_left _ _)
        have hmul : (m + 1) * roomN lv = m * roomN lv + roomN lv := by rw [Nat.add_mul, Nat.one_mul]
        have hp := roomN_pos lv
        have hkl := kid_le (lv := lv) (k := m) (by omega)
        have hs2 := hs.filter fun x => decide (x < fst + (m + 1) * roomN lv)
        rw [sorted_split (fst + m * roomN lv) hs2, tot_app (c := fst + m * roomN lv) (fun x hx => by simpa using (List.mem_filter.1 hx).2) (fun x hx => by simpa using (List.mem_filter.1 hx).2) lv hd2, sumN, ← ih (by omega)]
        congr 1
        · rw [List.filter_filter]
          congr 1
          apply List.filter_congr
          intro x _
          by_cases h : x < fst + m * roomN lv
          · simp [h]; omega
          · simp [h]
        · refine tot_cnt hd2 (hs2.filter _) fun x => ?_
          simp only [List.mem_filter, decide_eq_true_eq, hm x]
          constructor
          · rintro ⟨⟨⟨h1, h2, h3⟩, h4⟩, h5⟩
            exact ⟨h5, by omega, h3⟩
          · rintro ⟨h1, h2, h3⟩
            exact ⟨⟨⟨by omega, by omega, h3⟩, by omega⟩, h1⟩
    have h14 := hseg 14 (Nat.le_refl _)
    have hall : xs.filter (fun x => decide (x < fst + 14 * roomN lv)) = xs := List.filter_eq_self.2 fun x hx => by
      have := (hm x).1 hx
      rw [roomN_succ] at this
      simp; omega
    rw [hall] at h14
    rw [tot, cnt, ← h14]
    obtain ⟨q, rfl⟩ := hd
    have hq : ∀ x ∈ xs, x / roomN (lv + 1) = q := fun x hx => by
      have h := (hm x).1 hx
      apply Nat.div_eq_of_lt_le
      · rw [Nat.mul_comm]; exact h.1
      · rw [Nat.add_mul, Nat.one_mul, Nat.mul_comm q]; exact h.2.1
    cases xs with
    | nil => rw [tot_nil]; rfl
    | cons x xs =>
      have h1 : runs (roomN (lv + 1)) none (x :: xs) = 1 := by
        rw [runs, if_neg (by simp), hq x (by simp), runs_same fun y hy => hq y (List.mem_cons_of_mem _ hy)]
      have h2 : ∀ d, tot d (x :: xs) ≠ 0 := by
        intro d
        induction d with
        | zero => rw [tot, runs, if_neg (by simp)]; omega
        | succ d ih => rw [tot]; omega
      rw [h1, if_neg (h2 lv)]; omega
end Go.Mt
namespace Go.Mt
open Go Go.Kx Go.Proofs.YtfngacepjcdlnaaDoor
def Fine (m : Nat) (R : (Pr × Nat) × Ch) : Prop := Small R.2 m ∧ R.1.1.wf ∧ Nums R.2
theorem node_fine {key name : List UInt8} {ch : Ch} {lv fst m : Nat} {ps : List Pr} (hs : Small ch (m + 1)) (hn : Nums ch) (hw : ∀ p ∈ ps, p.wf) (h14 : ps.length = 14) : Fine m (ch.node key name lv fst ps) :=
  ⟨Small.node key name lv fst ps hs, node_wf key name lv fst ps (hs.mono (by omega)), hn.node key name lv fst hw h14 (hs.mono (by omega))⟩
theorem cutK_fine {g : Nat → Pr → Ch → (Pr × Nat) × Ch} {s : Nat} (hg : ∀ k q c m, k < 14 → q.wf → Nums c → Small c (s + m) → Fine m (g k q c)) {ps : List Pr} {ch : Ch} (hw : ∀ p ∈ ps, p.wf) (h14 : ps.length = 14) (hn : Nums ch) :
    ∀ i r, i ≤ 14 → Small ch (i * s + r) → Small (cutK g i ps ch).2 r ∧ (∀ p ∈ (cutK g i ps ch).1.1, p.wf) ∧ (cutK g i ps ch).1.1.length = 14 ∧ Nums (cutK g i ps ch).2
  | 0, r, _, hs => ⟨hs.mono (by omega), hw, h14, hn⟩
  | i + 1, r, hi, hs => by
    have hmul : (i + 1) * s = i * s + s := by rw [Nat.add_mul, Nat.one_mul]
    obtain ⟨h1, h2, h3, h4⟩ := cutK_fine hg hw h14 hn i (s + r) (by omega) (hs.mono (by omega))
    rw [cutK]
    split
    · obtain ⟨f1, f2, f3⟩ := hg i _ _ r (by omega) (getD_wf h2 i) h4 h1
      exact ⟨f1, wf_set h2 f2, by rw [List.length_set]; exact h3, f3⟩
    · exact ⟨h1.mono (by omega), h2, h3, h4⟩
theorem cut_fine {key name : List UInt8} {n : Nat} : ∀ (lv fst : Nat) (p : Pr) (ch : Ch) (m : Nat), p.wf → Nums ch → Small ch (stp lv + m) → Fine m (cutP key name lv fst p n ch)
  | 0, fst, p, ch, m, hp, hn, hs => by
    rw [cutP]
    split
    · exact ⟨hs.mono (by simp [stp]), hp, hn⟩
    · exact ⟨Small.lose p (hs.mono (by simp [stp]; omega)), zero_wf, hn.lose hp⟩
  | lv + 1, fst, p, ch, m, hp, hn, hs => by
    have hstp : stp (lv + 1) = 14 * stp lv + 2 := rfl
    by_cases h0 : p.sec = 0 ∨ fst + roomN (lv + 1) ≤ n
    · rw [cutP, if_pos h0]
      exact ⟨hs.mono (by omega), hp, hn⟩
    rw [cutP, if_neg h0]
    cases hps : ptsP key name ch.st p (lv + 1) fst with
    | none => exact ⟨hs.mono (by omega), zero_wf, hn⟩
    | some ps =>
      simp only
      obtain ⟨hw, h14⟩ := ptsP_wf hn.all hps
      have hk := cutK_fine (g := fun k q c => cutP key name lv (fst + k * roomN lv) q n c) (s := stp lv) (fun k q c m' hk hq hc hsc => cut_fine lv (fst + k * roomN lv) q c m' hq hc hsc) hw h14 hn 14 (2 + m) (Nat.le_refl _) (hs.mono (by omega))
      generalize cutK (fun k q c => cutP key name lv (fst + k * roomN lv) q n c) 14 ps ch = R at *
      obtain ⟨⟨qs, cq⟩, ch2⟩ := R
      obtain ⟨h1, h2, h3, h4⟩ := hk
      simp only at h1 h2 h3 h4 ⊢
      by_cases hc : cq = 0
      · rw [if_pos hc]
        by_cases he : qs = ps
        · rw [if_pos he]
          exact ⟨h1.mono (by omega), hp, h4⟩
        · rw [if_neg he]
          exact node_fine (Small.lose p (h1.mono (by omega))) (h4.lose hp) h2 h3
      · rw [if_neg hc]
        exact ⟨h1.mono (by omega), zero_wf, h4⟩
theorem cutK_stop {g : Nat → Pr → Ch → (Pr × Nat) × Ch} {ps : List Pr} {ch : Ch} {i : Nat} (h : (cutK g i ps ch).1.2 ≠ 0) : ∀ m, i ≤ m → cutK g m ps ch = cutK g i ps ch
  | 0, hm => by
      obtain rfl : i = 0 := by omega
      rfl
  | m + 1, hm => by
    by_cases e : i = m + 1
    · rw [e]
    · have ih := cutK_stop h m (by omega)
      rw [cutK, ih, if_neg h]
end Go.Mt
namespace Go.Mt
open Go Go.Kx Go.Proofs.YtfngacepjcdlnaaDoor
abbrev BlL := List (Nat × List UInt8)
structure Bl (l : BlL) (f : Nat → Option (List UInt8)) : Prop where
  ord : l.Pairwise fun a b => a.1 < b.1
  mem : ∀ j b, (j, b) ∈ l ↔ f j = some b
theorem bl_nil : Bl [] (fun _ => none) := ⟨List.Pairwise.nil, fun j b => by simp⟩
def putS1 (i : Nat) (b : List UInt8) (s : BlL × Bool) (e : Nat × List UInt8) : BlL × Bool :=
  (if e.1 ≠ i then (if s.2 = false ∧ i ≤ e.1 then s.1 ++ [(i, b)] else s.1) ++ [e] else (if s.2 = false ∧ i ≤ e.1 then s.1 ++ [(i, b)] else s.1), s.2 || decide (i ≤ e.1))
def putF (l : BlL) (i : Nat) (b : List UInt8) : BlL :=
  if (l.foldl (putS1 i b) ([], false)).2 = true then (l.foldl (putS1 i b) ([], false)).1 else (l.foldl (putS1 i b) ([], false)).1 ++ [(i, b)]
theorem put_done (i : Nat) (b : List UInt8) : ∀ (l out : BlL), l.foldl (putS1 i b) (out, true) = (out ++ l.filter (fun e => decide (e.1 ≠ i)), true)
  | [], out => by simp
  | e :: l, out => by
    rw [List.foldl_cons]
    have h : putS1 i b (out, true) e = (if e.1 ≠ i then out ++ [e] else out, true) := by simp [putS1]
    rw [h, put_done i b l]
    by_cases he : e.1 ≠ i
    · rw [if_pos he, List.filter_cons_of_pos (by simpa using he)]; simp
    · rw [if_neg he, List.filter_cons_of_neg (by simpa using he)]
theorem put_fold (i : Nat) (b : List UInt8) : ∀ (l out : BlL), l.Pairwise (fun a c => a.1 < c.1) →
    (if (l.foldl (putS1 i b) (out, false)).2 = true then (l.foldl (putS1 i b) (out, false)).1 else (l.foldl (putS1 i b) (out, false)).1 ++ [(i, b)]) = out ++ (l.filter (fun e => decide (e.1 < i)) ++ (i, b) :: l.filter (fun e => decide (i < e.1)))
  | [], out, _ => by simp
  | e :: l, out, h => by
    obtain ⟨h1, h2⟩ := List.pairwise_cons.1 h
    rw [List.foldl_cons]
    by_cases he : i ≤ e.1
    · have hs : putS1 i b (out, false) e = (if e.1 ≠ i then out ++ [(i, b)] ++ [e] else out ++ [(i, b)], true) := by simp [putS1, he]
      rw [hs, put_done]
      simp only [if_true]
      have f1 : l.filter (fun e => decide (e.1 < i)) = [] := List.filter_eq_nil_iff.2 fun x hx => by have := h1 x hx; simp; omega
      have f2 : l.filter (fun e => decide (e.1 ≠ i)) = l.filter (fun e => decide (i < e.1)) := List.filter_congr fun x hx => by have := h1 x hx; apply decide_eq_decide.2; omega
      rw [f2]
      by_cases hi : e.1 ≠ i
      · rw [if_pos hi, List.filter_cons_of_neg (by simp; omega), List.filter_cons_of_pos (by simp; omega), f1]; simp
      · rw [if_neg hi, List.filter_cons_of_neg (by simp; omega), List.filter_cons_of_neg (by simp; omega), f1]; simp
    · have hs : putS1 i b (out, false) e = (out ++ [e], false) := by simp [putS1, he]; omega
      rw [hs, put_fold i b l _ h2, List.filter_cons_of_pos (by simp; omega), List.filter_cons_of_neg (by simp; omega)]
      simp
theorem Bl.put {l : BlL} {f : Nat → Option (List UInt8)} (h : Bl l f) (i : Nat) (b : List UInt8) : Bl (putF l i b) (upd f i (some b)) := by
  have e : putF l i b = l.filter (fun e => decide (e.1 < i)) ++ (i, b) :: l.filter (fun e => decide (i < e.1)) := by
    have := put_fold i b l [] h.ord
    rw [List.nil_append] at this
    exact this
  rw [e]
  refine ⟨?_, fun j c => ?_⟩
  · refine List.pairwise_append.2 ⟨h.ord.filter _, List.pairwise_cons.2 ⟨fun x hx => ?_, h.ord.filter _⟩, fun x hx y hy => ?_⟩
    · simpa using (List.mem_filter.1 hx).2
    · have h1 : x.1 < i := by simpa using (List.mem_filter.1 hx).2
      rcases List.mem_cons.1 hy with rfl | hy
      · exact h1
      · have h2 : i < y.1 := by simpa using (List.mem_filter.1 hy).2
        omega
  · unfold upd
    simp only [List.mem_append, List.mem_filter, List.mem_cons, decide_eq_true_eq, Prod.mk.injEq]
    by_cases hj : j = i
    · subst hj
      rw [if_pos rfl]
      constructor
      · rintro (⟨_, h1⟩ | ⟨_, rfl⟩ | ⟨_, h1⟩)
        · omega
        · rfl
        · omega
      · intro h1; exact .inr (.inl ⟨rfl, (Option.some.inj h1).symm⟩)
    · rw [if_neg hj, ← h.mem j c]
      constructor
      · rintro (⟨h1, _⟩ | ⟨h1, _⟩ | ⟨h1, _⟩)
        · exact h1
        · exact absurd h1 hj
        · exact h1
      · intro h1
        rcases Nat.lt_or_gt_of_ne hj with h2 | h2
        · exact .inl ⟨h1, h2⟩
        · exact .inr (.inr ⟨h1, h2⟩)
theorem Bl.cut {l : BlL} {f : Nat → Option (List UInt8)} (h : Bl l f) (n : Nat) : Bl (l.filter fun e => decide (e.1 < n)) (ahead f n) := by
  refine ⟨h.ord.filter _, fun j c => ?_⟩
  unfold ahead
  rw [List.mem_filter, h.mem]
  by_cases hj : j < n
  · rw [if_pos hj]; simp [hj]
  · rw [if_neg hj]; simp [hj]
theorem Bl.without {l : BlL} {f : Nat → Option (List UInt8)} (h : Bl l f) (i : Nat) : Bl (l.filter fun e => decide (e.1 ≠ i)) (upd f i none) := by
  refine ⟨h.ord.filter _, fun j c => ?_⟩
  unfold upd
  rw [List.mem_filter, h.mem]
  by_cases hj : j = i
  · rw [if_pos hj]; simp [hj]
  · rw [if_neg hj]; simp [hj]
theorem Bl.count {l : BlL} {f : Nat → Option (List UInt8)} (h : Bl l f) {d : Nat} (ho : ∀ j, roomN d ≤ j → f j = none) : tot d (l.map Prod.fst) = cnt f d 0 := by
  refine tot_cnt (Nat.dvd_zero _) (List.pairwise_map.2 h.ord) fun x => ?_
  constructor
  · intro hx
    obtain ⟨⟨j, b⟩, hm, rfl⟩ := List.mem_map.1 hx
    have hf := (h.mem j b).1 hm
    refine ⟨Nat.zero_le _, ?_, by simp [hf]⟩
    by_cases hlt : j < roomN d
    · simpa using hlt
    · rw [ho j (by omega)] at hf; cases hf
  · rintro ⟨_, _, hs⟩
    obtain ⟨b, hb⟩ := Option.isSome_iff_exists.1 hs
    exact List.mem_map.2 ⟨(x, b), (h.mem x b).2 hb, rfl⟩
theorem runs_one : ∀ {last : Option Nat} {xs : List Nat}, xs.Pairwise (· < ·) → (∀ z, last = some z → ∀ x ∈ xs, z < x) → runs 1 last xs = xs.length
  | _, [], _, _ => rfl
  | last, x :: xs, h, hl => by
    obtain ⟨h1, h2⟩ := List.pairwise_cons.1 h
    rw [runs, Nat.div_one, if_neg (fun e => by have := hl x e x (List.mem_cons_self ..); omega), runs_one h2 (fun z hz y hy => by obtain rfl := Option.some.inj hz; exact h1 y hy), List.length_cons]
    omega
end Go.Mt
