/- Trees, plainly: what a pointer at a place stands for. Own work. | Trees, plainly: a whole put; what is told of a tree. Own work. -/
import Derived.Test.YtfngacepjcdlnaaDoorQMe
set_option linter.unusedVariables false
namespace Go.Mt
open Go Go.Kx Go.Proofs.YtfngacepjcdlnaaDoor
theorem layN_num {n : Nat} (h : n < 4294967296) : numB (layN n 4) = n := by
  simp [layN, numB, List.range_succ]
  omega
structure Pr.ok (p : Pr) : Prop where
  mac : p.mac.length = 32
  sec : p.sec < 4294967296
  zero : p.sec = 0 → p = Pr.zero
theorem Pr.ok.wf {p : Pr} (h : p.ok) : p.wf := ⟨h.mac, by have := h.sec; omega⟩
theorem zero_ok : Pr.zero.ok := ⟨rfl, by decide, fun _ => rfl⟩
theorem packB_take (p : Pr) : (packB p).take 4 = layN p.sec 4 := by unfold packB; rw [List.take_left' (layN_length _ _)]
theorem packB_drop (p : Pr) : (packB p).drop 4 = p.mac := by unfold packB; rw [List.drop_left' (layN_length _ _)]
theorem unB_packB {p : Pr} (h : p.ok) : unB (packB p) = p := by
  unfold unB
  rw [packB_take, packB_drop, layN_num h.sec]
theorem unOk_packB {p : Pr} (h : p.ok) : unOk (packB p) = true := by
  unfold unOk
  rw [packB_take, packB_drop, layN_num h.sec, packB_length h.wf]
  by_cases h0 : p.sec = 0
  · rw [h.zero h0]; rfl
  · simp [h0]
theorem chunk_at : ∀ (ps : List Pr) (i : Nat) (hi : i < ps.length) (rest : List UInt8), (∀ p ∈ ps, p.wf) → ((packsB ps ++ rest).drop (36 * i)).take 36 = packB (ps[i])
  | [], i, hi, _, _ => by simp at hi
  | p :: ps, 0, hi, rest, hw => by
    have hl := packB_length (hw p (List.mem_cons_self ..))
    rw [show packsB (p :: ps) = packB p ++ packsB ps from rfl, List.append_assoc, Nat.mul_zero, List.drop_zero, List.take_left' hl]
    rfl
  | p :: ps, i + 1, hi, rest, hw => by
    have hl := packB_length (hw p (List.mem_cons_self ..))
    rw [show packsB (p :: ps) = packB p ++ packsB ps from rfl, List.append_assoc, show 36 * (i + 1) = (packB p).length + 36 * i by omega, ← List.drop_drop, List.drop_left]
    exact chunk_at ps i (by simpa using hi) rest fun q hq => hw q (List.mem_cons_of_mem _ hq)
theorem ptsP_node {key name : List UInt8} {st : St} {p : Pr} {lv fst : Nat} {ps : List Pr} (h0 : p.sec ≠ 0) (hat : st.at p.sec = some (nodeB ps)) (hm : macB key name lv fst (nodeB ps) = p.mac) (h14 : ps.length = 14) (hok : ∀ q ∈ ps, q.ok) :
    ptsP key name st p lv fst = some ps := by
  have hc : ∀ i (h : i < ps.length), chunk (nodeB ps) i = packB ps[i] := fun i h => chunk_at ps i h _ fun q hq => (hok q hq).wf
  have hld : ldP key name st p lv fst = some (nodeB ps) := by
    unfold ldP
    rw [hat]
    simp only
    rw [if_pos hm]
  unfold ptsP
  rw [if_neg h0, hld]
  simp only
  rw [if_pos (List.all_eq_true.2 fun i hi => by
    have hi' : i < ps.length := by rw [h14]; exact List.mem_range.1 hi
    rw [hc i hi']; exact unOk_packB (hok _ (List.getElem_mem hi')))]
  congr 1
  apply List.ext_getElem (by simp [h14])
  intro i h1 h2
  rw [List.getElem_map, List.getElem_range, hc i h2, unB_packB (hok _ (List.getElem_mem h2))]
theorem ldP_some {key name : List UInt8} {st : St} {p : Pr} {lv fst : Nat} {b : List UInt8} (h : ldP key name st p lv fst = some b) : st.at p.sec = some b ∧ macB key name lv fst b = p.mac := by
  unfold ldP at h
  split at h
  · rename_i b' hat
    split at h
    · rename_i hm
      obtain rfl := Option.some.inj h
      exact ⟨hat, hm⟩
    · cases h
  · cases h
theorem ldP_of {key name : List UInt8} {st : St} {p : Pr} {lv fst : Nat} {b : List UInt8} (h : st.at p.sec = some b) (hm : macB key name lv fst b = p.mac) : ldP key name st p lv fst = some b := by
  unfold ldP
  rw [h]
  simp only
  rw [if_pos hm]
theorem at_lt {st : St} {n : Nat} {b : List UInt8} (h : st.at n = some b) : 1 ≤ n ∧ n ≤ st.b.length := by
  unfold St.at at h
  split at h
  · rename_i hc; exact ⟨hc.1, hc.2.1⟩
  · cases h
theorem ptsP_zero (key name : List UInt8) (st : St) {p : Pr} (lv fst : Nat) (h : p.sec = 0) : ptsP key name st p lv fst = some zeros := by
  unfold ptsP
  rw [if_pos h]
theorem ptsP_mono {key name : List UInt8} {st st' : St} {p : Pr} {lv fst : Nat} {ps : List Pr} (h : ptsP key name st p lv fst = some ps) (hs : ∀ b, st.at p.sec = some b → st'.at p.sec = some b) : ptsP key name st' p lv fst = some ps := by
  unfold ptsP at h ⊢
  split at h
  · rename_i h0; rw [if_pos h0]; exact h
  · rename_i h0
    rw [if_neg h0]
    split at h
    · rename_i b hb
      have h1 := ldP_some hb
      rw [ldP_of (hs b h1.1) h1.2]
      exact h
    · cases h
theorem kid_le {lv k : Nat} (h : k < 14) : k * roomN lv + roomN lv ≤ roomN (lv + 1) := by
  have h2 : (k + 1) * roomN lv ≤ 14 * roomN lv := Nat.mul_le_mul_right _ (by omega)
  rw [Nat.add_mul, Nat.one_mul] at h2
  rw [roomN_succ]
  omega
def Rep (key name : List UInt8) (st : St) : Nat → Nat → Pr → (Nat → Option (List UInt8)) → List Nat → Prop
  | 0, fst, p, f, S => (p = Pr.zero ∧ f fst = none ∧ S = []) ∨ (∃ b, p.sec ≠ 0 ∧ ldP key name st p 0 fst = some b ∧ f fst = some b ∧ S = [p.sec])
  | lv + 1, fst, p, f, S => (p = Pr.zero ∧ (∀ j, fst ≤ j → j < fst + roomN (lv + 1) → f j = none) ∧ S = []) ∨
    (∃ ps Ss, p.sec ≠ 0 ∧ ptsP key name st p (lv + 1) fst = some ps ∧ ps.length = 14 ∧ ps ≠ zeros ∧ (∀ k, k < 14 → Rep key name st lv (fst + k * roomN lv) (ps.getD k Pr.zero) f (Ss k)) ∧ S = p.sec :: (List.range 14).flatMap Ss)
theorem rep_zero (key name : List UInt8) (st : St) {lv fst : Nat} {f : Nat → Option (List UInt8)} (h : ∀ j, fst ≤ j → j < fst + roomN lv → f j = none) : Rep key name st lv fst Pr.zero f [] := by
  cases lv with
  | zero => exact .inl ⟨rfl, h fst (Nat.le_refl _) (by simp [roomN]), rfl⟩
  | succ lv => exact .inl ⟨rfl, h, rfl⟩
theorem Rep.sec0 {key name : List UInt8} {st : St} {lv fst : Nat} {p : Pr} {f : Nat → Option (List UInt8)} {S : List Nat} (h : Rep key name st lv fst p f S) (h0 : p.sec = 0) : p = Pr.zero ∧ S = [] ∧ ∀ j, fst ≤ j → j < fst + roomN lv → f j = none := by
  cases lv with
  | zero =>
    rcases h with ⟨h1, h2, h3⟩ | ⟨b, h1, _⟩
    · exact ⟨h1, h3, fun j hj hj' => by
        obtain rfl : j = fst := by simp [roomN] at hj'; omega
        exact h2⟩
    · exact absurd h0 h1
  | succ lv =>
    rcases h with ⟨h1, h2, h3⟩ | ⟨ps, Ss, h1, _⟩
    · exact ⟨h1, h3, h2⟩
    · exact absurd h0 h1
def hd (p : Pr) : List Nat := if p.sec = 0 then [] else [p.sec]
theorem zeros_getD (k : Nat) : zeros.getD k Pr.zero = Pr.zero := by
  by_cases h : k < zeros.length
  · rw [show zeros.getD k Pr.zero = zeros[k] by simp [List.getD, h]]
    exact List.eq_of_mem_replicate (List.getElem_mem h)
  · simp [List.getD, List.getElem?_eq_none (show zeros.length ≤ k by omega)]
theorem Rep.kids {key name : List UInt8} {st : St} {lv fst : Nat} {p : Pr} {f : Nat → Option (List UInt8)} {S : List Nat} (h : Rep key name st (lv + 1) fst p f S) :
    ∃ ps Ss, ptsP key name st p (lv + 1) fst = some ps ∧ ps.length = 14 ∧ (∀ k, k < 14 → Rep key name st lv (fst + k * roomN lv) (ps.getD k Pr.zero) f (Ss k)) ∧ S = hd p ++ (List.range 14).flatMap Ss ∧ (p.sec ≠ 0 → ps ≠ zeros) := by
  rcases h with ⟨rfl, h2, rfl⟩ | ⟨ps, Ss, h1, h2, h3, h4, h5, rfl⟩
  · refine ⟨zeros, fun _ => [], ptsP_zero key name st _ _ rfl, rfl, fun k hk => ?_, ?_, fun h => absurd rfl h⟩
    · rw [zeros_getD]
      have := kid_le (lv := lv) hk
      exact rep_zero key name st fun j hj hj' => h2 j (by omega) (by omega)
    · simp [hd, Pr.zero]
  · exact ⟨ps, Ss, h2, h3, h5, by simp [hd, h1], fun _ => h4⟩
theorem Rep.sub {key name : List UInt8} {st st' : St} : ∀ {lv fst : Nat} {p : Pr} {f f' : Nat → Option (List UInt8)} {S : List Nat}, Rep key name st lv fst p f S → (∀ n ∈ S, ∀ b, st.at n = some b → st'.at n = some b) → (∀ j, fst ≤ j → j < fst + roomN lv → f j = f' j) → Rep key name st' lv fst p f' S
  | 0, fst, p, f, f', S, h, hs, hf => by
    have hff := hf fst (Nat.le_refl _) (by simp [roomN])
    rcases h with ⟨h1, h2, h3⟩ | ⟨b, h1, h2, h3, rfl⟩
    · exact .inl ⟨h1, by rw [← hff]; exact h2, h3⟩
    · have hl := ldP_some h2
      exact .inr ⟨b, h1, ldP_of (hs p.sec (List.mem_singleton.2 rfl) b hl.1) hl.2, by rw [← hff]; exact h3, rfl⟩
  | lv + 1, fst, p, f, f', S, h, hs, hf => by
    rcases h with ⟨h1, h2, h3⟩ | ⟨ps, Ss, h1, h2, h3, h4, h5, rfl⟩
    · exact .inl ⟨h1, fun j hj hj' => by rw [← hf j hj hj']; exact h2 j hj hj', h3⟩
    · refine .inr ⟨ps, Ss, h1, ptsP_mono h2 (hs p.sec (List.mem_cons_self ..)), h3, h4, fun k hk => (h5 k hk).sub (fun n hn b hb => hs n (List.mem_cons_of_mem _ (List.mem_flatMap.2 ⟨k, List.mem_range.2 hk, hn⟩)) b hb) fun j hj hj' => ?_, rfl⟩
      have := kid_le (lv := lv) hk
      exact hf j (by omega) (by omega)
theorem Rep.okp {key name : List UInt8} {st : St} {lv fst : Nat} {p : Pr} {f : Nat → Option (List UInt8)} {S : List Nat} (h : Rep key name st lv fst p f S) (hb : st.b.length ≤ 1000000) : p.ok := by
  have key1 : ∀ {lv fst b}, p.sec ≠ 0 → ldP key name st p lv fst = some b → p.ok := fun {lv fst b} h0 h => by
    have h1 := ldP_some h
    have h2 := at_lt h1.1
    exact ⟨by rw [← h1.2]; exact macB_length _ _ _ _ _, by omega, fun e => absurd e h0⟩
  cases lv with
  | zero =>
    rcases h with ⟨rfl, _⟩ | ⟨b, h1, h2, _⟩
    · exact zero_ok
    · exact key1 h1 h2
  | succ lv =>
    rcases h with ⟨rfl, _⟩ | ⟨ps, Ss, h1, h2, _⟩
    · exact zero_ok
    · unfold ptsP at h2
      rw [if_neg h1] at h2
      split at h2
      · rename_i b hb'; exact key1 h1 hb'
      · cases h2
theorem Rep.there {key name : List UInt8} {st : St} : ∀ {lv fst : Nat} {p : Pr} {f : Nat → Option (List UInt8)} {S : List Nat}, Rep key name st lv fst p f S → ∀ n ∈ S, ∃ b, st.at n = some b
  | 0, fst, p, f, S, h, n, hn => by
    rcases h with ⟨h1, h2, rfl⟩ | ⟨b, h1, h2, h3, rfl⟩
    · cases hn
    · rw [List.mem_singleton.1 hn]; exact ⟨b, (ldP_some h2).1⟩
  | lv + 1, fst, p, f, S, h, n, hn => by
    rcases h with ⟨h1, h2, rfl⟩ | ⟨ps, Ss, h1, h2, h3, h4, h5, rfl⟩
    · cases hn
    · rcases List.mem_cons.1 hn with rfl | hn
      · unfold ptsP at h2
        rw [if_neg h1] at h2
        split at h2
        · rename_i b hb; exact ⟨b, (ldP_some hb).1⟩
        · cases h2
      · obtain ⟨k, hk, hn⟩ := List.mem_flatMap.1 hn
        exact (h5 k (List.mem_range.1 hk)).there n hn
structure Ext (st st' : St) (N : List Nat) : Prop where
  ex : ∃ bs, st'.b = st.b ++ bs ∧ st'.is = st.is ++ List.replicate bs.length true ∧ N = (List.range bs.length).map (st.b.length + 1 + ·)
  room : st'.room = st.room
  le : st'.count ≤ max st.count st.room
def St.ok (st : St) : Prop := st.is.length = st.b.length
theorem Ext.refl (st : St) : Ext st st [] := ⟨⟨[], by simp⟩, rfl, Nat.le_max_left ..⟩
theorem Ext.trans {st st1 st2 : St} {N N' : List Nat} (h : Ext st st1 N) (h' : Ext st1 st2 N') : Ext st st2 (N ++ N') := by
  obtain ⟨bs, h1, h2, h3⟩ := h.ex
  obtain ⟨bs', h1', h2', h3'⟩ := h'.ex
  refine ⟨⟨bs ++ bs', by rw [h1', h1, List.append_assoc], by rw [h2', h2, List.append_assoc, List.length_append, List.replicate_append_replicate], ?_⟩, by rw [h'.room, h.room], by have h4 := h.le; have h5 := h'.le; rw [h.room] at h5; omega⟩
  rw [h3, h3', List.length_append, List.range_add, List.map_append, List.map_map, h1, List.length_append]
  congr 1
  apply List.map_congr_left
  intro a _
  simp only [Function.comp]
  omega
theorem Ext.ok {st st' : St} {N : List Nat} (h : Ext st st' N) (ho : st.ok) : st'.ok := by
  obtain ⟨bs, h1, h2, h3⟩ := h.ex
  unfold St.ok at *
  rw [h1, h2, List.length_append, List.length_append, List.length_replicate, ho]
theorem Ext.len {st st' : St} {N : List Nat} (h : Ext st st' N) : st'.b.length = st.b.length + N.length := by
  obtain ⟨bs, h1, h2, rfl⟩ := h.ex
  rw [h1, List.length_append]; simp
theorem Ext.count {st st' : St} {N : List Nat} (h : Ext st st' N) : st'.count = st.count + N.length := by
  obtain ⟨bs, h1, h2, rfl⟩ := h.ex
  unfold St.count
  rw [h2, List.count_append, List.count_replicate_self]; simp
theorem Ext.mem {st st' : St} {N : List Nat} (h : Ext st st' N) (n : Nat) : n ∈ N ↔ st.b.length < n ∧ n ≤ st.b.length + N.length := by
  obtain ⟨bs, h1, h2, rfl⟩ := h.ex
  simp only [List.mem_map, List.mem_range, List.length_map, List.length_range]
  exact ⟨fun ⟨a, ha, e⟩ => by omega, fun ⟨a, b⟩ => ⟨n - st.b.length - 1, by omega, by omega⟩⟩
theorem Ext.at {st st' : St} {N : List Nat} (h : Ext st st' N) (ho : st.ok) (n : Nat) (hn : n ≤ st.b.length) : st'.at n = st.at n := by
  obtain ⟨bs, h1, h2, rfl⟩ := h.ex
  unfold St.ok at ho
  unfold St.at
  rw [h1, h2]
  by_cases h0 : 1 ≤ n
  · rw [show (st.is ++ List.replicate bs.length true).getD (n - 1) false = st.is.getD (n - 1) false by simp only [List.getD]; rw [List.getElem?_append_left (by omega)],
      show (st.b ++ bs).getD (n - 1) [] = st.b.getD (n - 1) [] by simp only [List.getD]; rw [List.getElem?_append_left (by omega)]]
    by_cases hc : st.is.getD (n - 1) false = true
    · rw [if_pos ⟨h0, by rw [List.length_append]; omega, hc⟩, if_pos ⟨h0, hn, hc⟩]
    · rw [if_neg fun h => hc h.2.2, if_neg fun h => hc h.2.2]
  · rw [if_neg fun h => h0 h.1, if_neg fun h => h0 h.1]
theorem Ext.at_new {st st' : St} {N : List Nat} (h : Ext st st' N) (ho : st.ok) (n : Nat) (hn : n ∈ N) : ∃ b, st'.at n = some b := by
  have hm := (h.mem n).1 hn
  have hl := h.len
  obtain ⟨bs, h1, h2, rfl⟩ := h.ex
  unfold St.ok at ho
  refine ⟨st'.b.getD (n - 1) [], at_yes (by omega) (by omega) ?_⟩
  rw [h2]
  simp only [List.getD]
  rw [List.getElem?_append_right (by omega), List.getElem?_replicate, if_pos (by simp at hm; omega)]
  rfl
theorem Ext.some {st st' : St} {N : List Nat} (h : Ext st st' N) (ho : st.ok) {n : Nat} {b : List UInt8} (hb : st.at n = some b) : st'.at n = some b := by
  rw [h.at ho n (at_lt hb).2]; exact hb
theorem Ext.nodup {st st' : St} {N : List Nat} (h : Ext st st' N) : N.Nodup := by
  obtain ⟨bs, h1, h2, rfl⟩ := h.ex
  rw [List.nodup_iff_pairwise_ne, List.pairwise_map]
  exact (List.nodup_iff_pairwise_ne.1 List.nodup_range).imp fun h e => h (by omega)
def St.one (st : St) (n : Nat) : Nat := if (st.at n).isSome = true then 1 else 0
theorem Ext.one {st st' : St} {N : List Nat} (h : Ext st st' N) (ho : st.ok) (n : Nat) : st'.one n = st.one n + N.count n := by
  have hm := h.mem n
  by_cases hn : n ∈ N
  · have h1 := hm.1 hn
    obtain ⟨b, hb⟩ := h.at_new ho n hn
    have h2 : N.count n = 1 := Nat.le_antisymm (List.nodup_iff_count.1 h.nodup n) (List.count_pos_iff.2 hn)
    have h3 : st.at n = none := at_no (.inr (.inl h1.1))
    unfold St.one
    rw [hb, h3, h2]
    rfl
  · have h2 : N.count n = 0 := List.count_eq_zero.2 hn
    rw [h2]
    unfold St.one
    by_cases h3 : n ≤ st.b.length
    · rw [h.at ho n h3]; rfl
    · have hl := h.len
      have h4 : ¬ n ≤ st'.b.length := fun h5 => hn (hm.2 ⟨by omega, by omega⟩)
      rw [at_no (st := st') (.inr (.inl (by omega))), at_no (st := st) (.inr (.inl (by omega)))]; rfl
def Step (ch ch' : Ch) (N G : List Nat) : Prop := Ext ch.st ch'.st N ∧ ch'.saved = ch.saved ++ N ∧ ch'.gone = ch.gone ++ G
theorem Step.refl (ch : Ch) : Step ch ch [] [] := ⟨Ext.refl _, by simp, by simp⟩
theorem Step.trans {ch ch1 ch2 : Ch} {N G N' G' : List Nat} (h : Step ch ch1 N G) (h' : Step ch1 ch2 N' G') : Step ch ch2 (N ++ N') (G ++ G') :=
  ⟨h.1.trans h'.1, by rw [h'.2.1, h.2.1, List.append_assoc], by rw [h'.2.2, h.2.2, List.append_assoc]⟩
theorem Step.lose (ch : Ch) (p : Pr) : Step ch (ch.lose p) [] (hd p) := by
  unfold Ch.lose hd
  split
  · exact Step.refl ch
  · exact ⟨Ext.refl _, by simp, rfl⟩
theorem save_ext {st : St} (b : List UInt8) (h : ¬ st.room ≤ st.count) : Ext st (st.save b) [st.b.length + 1] := ⟨⟨[b], rfl, rfl, by simp⟩, rfl, by
  have : (st.save b).count = st.count + 1 := by unfold St.count St.save; rw [List.count_append]; rfl
  omega⟩
theorem save_at {st : St} (ho : st.ok) (b : List UInt8) : (st.save b).at (st.b.length + 1) = some b := by
  unfold St.ok at ho
  rw [at_yes (by omega) (by simp [St.save]) (by simp [St.save, List.getD, ← ho])]
  simp [St.save, List.getD]
theorem save_step {key name : List UInt8} {ch : Ch} {lv fst : Nat} {b : List UInt8} (ho : ch.st.ok) :
    ∃ N, Step ch (ch.save key name lv fst b).2 N [] ∧ N.length ≤ 1 ∧
      (((ch.save key name lv fst b).1.2 = 0 ∧ N = [ch.st.b.length + 1] ∧ (ch.save key name lv fst b).1.1 = ⟨ch.st.b.length + 1, macB key name lv fst b⟩ ∧ (ch.save key name lv fst b).2.st.at (ch.st.b.length + 1) = some b) ∨
       ((ch.save key name lv fst b).1.2 = 12 ∧ (ch.save key name lv fst b).2.st.room ≤ (ch.save key name lv fst b).2.st.count)) := by
  unfold Ch.save
  split
  · rename_i h
    exact ⟨[], Step.refl ch, by simp, .inr ⟨rfl, h⟩⟩
  · rename_i h
    exact ⟨[ch.st.b.length + 1], ⟨save_ext _ h, rfl, by simp⟩, by simp, .inl ⟨rfl, rfl, rfl, save_at ho b⟩⟩
theorem count_upd (Ss : Nat → List Nat) (k : Nat) (X : List Nat) (a : Nat) : ∀ m, ((List.range m).flatMap fun j => if j = k then X else Ss j).count a + (if k < m then (Ss k).count a else 0) = ((List.range m).flatMap Ss).count a + if k < m then X.count a else 0
  | 0 => by simp
  | m + 1 => by
    have ih := count_upd Ss k X a m
    rw [List.range_succ, List.flatMap_append, List.flatMap_append, List.count_append, List.count_append]
    simp only [List.flatMap_cons, List.flatMap_nil, List.append_nil]
    by_cases h : m = k
    · subst h
      rw [if_neg (by omega), if_neg (by omega)] at ih
      rw [if_pos rfl, if_pos (show m < m + 1 by omega), if_pos (show m < m + 1 by omega)]
      omega
    · rw [if_neg h]
      by_cases h2 : k < m
      · rw [if_pos h2, if_pos h2] at ih
        rw [if_pos (by omega), if_pos (by omega)]
        omega
      · rw [if_neg h2, if_neg h2] at ih
        rw [if_neg (by omega), if_neg (by omega)]
        omega
theorem getD_set (ps : List Pr) (k j : Nat) (q : Pr) (h : k < ps.length) : (ps.set k q).getD j Pr.zero = if j = k then q else ps.getD j Pr.zero := by
  by_cases e : j = k
  · subst e; simp [List.getD, h]
  · rw [if_neg e]; simp only [List.getD]; rw [List.getElem?_set_ne (fun h => e h.symm)]
theorem getD_get {ps : List Pr} {k : Nat} (h : k < ps.length) : ps.getD k Pr.zero = ps[k] := by simp [List.getD, h]
theorem node_rep {key name : List UInt8} {ch : Ch} {lv fst : Nat} {ps : List Pr} {f : Nat → Option (List UInt8)} {Ss : Nat → List Nat} (h14 : ps.length = 14) (ho : ch.st.ok) (hsm : Small ch 1)
    (hk : ∀ k, k < 14 → Rep key name ch.st lv (fst + k * roomN lv) (ps.getD k Pr.zero) f (Ss k)) :
    ∃ N, Step ch (ch.node key name (lv + 1) fst ps).2 N [] ∧ N.length ≤ 1 ∧
      (((ch.node key name (lv + 1) fst ps).1.2 = 0 ∧ ∃ S, Rep key name (ch.node key name (lv + 1) fst ps).2.st (lv + 1) fst (ch.node key name (lv + 1) fst ps).1.1 f S ∧ ∀ a, S.count a = ((List.range 14).flatMap Ss).count a + N.count a) ∨
       ((ch.node key name (lv + 1) fst ps).1.2 = 12 ∧ (ch.node key name (lv + 1) fst ps).2.st.room ≤ (ch.node key name (lv + 1) fst ps).2.st.count)) := by
  have hok : ∀ q ∈ ps, q.ok := fun q hq => by
    obtain ⟨k, hkl, rfl⟩ := List.mem_iff_getElem.1 hq
    have := (hk k (by omega)).okp (by have := hsm.b; omega)
    rw [getD_get hkl] at this
    exact this
  unfold Ch.node
  split
  · rename_i hz
    subst hz
    refine ⟨[], Step.refl ch, by simp, .inl ⟨rfl, [], rep_zero key name ch.st fun j hj hj' => ?_, fun a => ?_⟩⟩
    · have hp := roomN_pos lv
      have hlt : (j - fst) / roomN lv < 14 := Nat.div_lt_of_lt_mul (by rw [roomN_succ] at hj'; omega)
      have h1 := Nat.div_mul_le_self (j - fst) (roomN lv)
      have h2 := Nat.lt_div_mul_add hp (a := j - fst)
      have h3 := hk _ hlt
      rw [zeros_getD] at h3
      exact (h3.sec0 rfl).2.2 j (by omega) (by omega)
    · have : ((List.range 14).flatMap Ss) = [] := List.flatMap_eq_nil_iff.2 fun k hk' => by
        have h3 := hk k (List.mem_range.1 hk')
        rw [zeros_getD] at h3
        exact (h3.sec0 rfl).2.1
      rw [this]; rfl
  · rename_i hz
    obtain ⟨N, h1, h2, h3⟩ := save_step (key := key) (name := name) (lv := lv + 1) (fst := fst) (b := nodeB ps) ho
    refine ⟨N, h1, h2, ?_⟩
    rcases h3 with ⟨h3, rfl, h5, h6⟩ | h3
    · refine .inl ⟨h3, (ch.st.b.length + 1) :: (List.range 14).flatMap Ss, ?_, fun a => by simp only [List.count_cons, List.count_nil]; omega⟩
      rw [h5]
      refine .inr ⟨ps, Ss, by simp, ptsP_node (by simp) h6 rfl h14 hok, h14, hz, fun k hk' => (hk k hk').sub (fun n _ b hb => h1.1.some ho hb) fun _ _ _ => rfl, rfl⟩
    · exact .inr h3
def upd (f : Nat → Option (List UInt8)) (i : Nat) (x : Option (List UInt8)) : Nat → Option (List UInt8) := fun j => if j = i then x else f j
theorem Step.small {ch ch' : Ch} {N G : List Nat} (h : Step ch ch' N G) {n m : Nat} (hs : Small ch n) (h1 : N.length + m ≤ n) (h2 : G.length + m ≤ n) : Small ch' m := by
  obtain ⟨a, b, c⟩ := h
  have := a.len
  exact ⟨by have := hs.b; omega, by rw [b, List.length_append]; have := hs.saved; omega, by rw [c, List.length_append]; have := hs.gone; omega⟩
theorem hd_length (p : Pr) : (hd p).length ≤ 1 := by unfold hd; split <;> simp
theorem put_rep {key name : List UInt8} : ∀ {lv fst : Nat} {p : Pr} {i : Nat} {b : List UInt8} {ch : Ch} {f : Nat → Option (List UInt8)} {S : List Nat}, Rep key name ch.st lv fst p f S → fst ≤ i → i < fst + roomN lv → ch.st.ok → Small ch (2 * lv + 2) →
    ∃ N G, Step ch (putP key name lv fst p i b ch).2 N G ∧ N.length ≤ lv + 1 ∧ G.length ≤ lv + 1 ∧
      (((putP key name lv fst p i b ch).1.2 = 0 ∧ ∃ S', Rep key name (putP key name lv fst p i b ch).2.st lv fst (putP key name lv fst p i b ch).1.1 (upd f i (some b)) S' ∧ ∀ a, S'.count a + G.count a = S.count a + N.count a) ∨
       ((putP key name lv fst p i b ch).1.2 = 12 ∧ (putP key name lv fst p i b ch).2.st.room ≤ (putP key name lv fst p i b ch).2.st.count))
  | 0, fst, p, i, b, ch, f, S, h, h1, h2, ho, hsm => by
    obtain rfl : i = fst := by simp [roomN] at h2; omega
    have hl := Step.lose ch p
    have hS : S = hd p := by
      rcases h with ⟨rfl, _, rfl⟩ | ⟨b', h0, _, _, rfl⟩
      · rfl
      · simp [hd, h0]
    rw [putP]
    obtain ⟨N, s1, s2, s3⟩ := save_step (key := key) (name := name) (lv := 0) (fst := i) (b := b) (hl.1.ok ho)
    refine ⟨[] ++ N, hd p ++ [], hl.trans s1, by simpa using s2, by have := hd_length p; simpa using this, ?_⟩
    rcases s3 with ⟨c1, rfl, c3, c4⟩ | c1
    · refine .inl ⟨c1, [(ch.lose p).st.b.length + 1], ?_, fun a => by rw [hS]; simp only [List.count_append, List.count_nil]; omega⟩
      rw [c3]
      exact .inr ⟨b, by simp, ldP_of c4 rfl, by simp [upd], rfl⟩
    · exact .inr c1
  | lv + 1, fst, p, i, b, ch, f, S, h, h1, h2, ho, hsm => by
    have hl := Step.lose ch p
    have hst : (ch.lose p).st = ch.st := by unfold Ch.lose; split <;> rfl
    obtain ⟨ps, Ss, hp, h14, hk, rfl, _⟩ := h.kids
    rw [putP, hst, hp]
    simp only
    obtain ⟨k1, k2, k3⟩ := hold_lt h1 h2
    have hdl := hd_length p
    have hs1 : Small (ch.lose p) (2 * lv + 2 + 1) := hl.small hsm (by simp; omega) (by omega)
    obtain ⟨N, G, s1, n1, g1, s2⟩ := put_rep (b := b) (by rw [hst]; exact hk _ k1) k2 k3 (by rw [hst]; exact ho) (hs1.mono (by omega))
    generalize hr : putP key name lv (fst + (i - fst) / roomN lv * roomN lv) (ps.getD ((i - fst) / roomN lv) Pr.zero) i b (ch.lose p) = res at *
    obtain ⟨⟨q, cq⟩, ch2⟩ := res
    simp only at s1 s2 ⊢
    have ho1 : (ch.lose p).st.ok := by rw [hst]; exact ho
    rcases s2 with ⟨rfl, S', r1, r2⟩ | ⟨rfl, c2⟩
    · rw [if_pos rfl]
      have hs2 : Small ch2 1 := s1.small hs1 (by omega) (by omega)
      have hext := s1.1
      rw [hst] at hext
      obtain ⟨N2, t1, t2, t3⟩ := node_rep (key := key) (name := name) (ch := ch2) (lv := lv) (fst := fst) (ps := ps.set ((i - fst) / roomN lv) q) (f := upd f i (some b)) (Ss := fun j => if j = (i - fst) / roomN lv then S' else Ss j) (by rw [List.length_set]; exact h14) (hext.ok ho) hs2 (by
        intro k hk'
        rw [getD_set _ _ _ _ (by omega)]
        by_cases e : k = (i - fst) / roomN lv
        · rw [if_pos e, if_pos e, e]; exact r1
        · rw [if_neg e, if_neg e]
          refine (hk k hk').sub (fun n _ b hb => hext.some ho hb) fun j hj hj' => ?_
          unfold upd
          rw [if_neg]
          rintro rfl
          have hp := roomN_pos lv
          have e1 : (j - fst) / roomN lv = k := by
            apply Nat.div_eq_of_lt_le
            · omega
            · rw [Nat.add_mul]; omega
          exact e e1.symm)
      refine ⟨[] ++ (N ++ N2), hd p ++ (G ++ []), hl.trans (s1.trans t1), by simp; omega, by simp; omega, ?_⟩
      rcases t3 with ⟨c1, S3, c2, c3⟩ | c1
      · refine .inl ⟨c1, S3, c2, fun a => ?_⟩
        have e1 := c3 a
        have e2 := count_upd Ss ((i - fst) / roomN lv) S' a 14
        rw [if_pos k1, if_pos k1] at e2
        have e3 := r2 a
        simp only [List.count_append, List.count_nil, List.nil_append]
        omega
      · exact .inr c1
    · rw [if_neg (by omega)]
      exact ⟨[] ++ N, hd p ++ G, hl.trans s1, by simp; omega, by simp; omega, .inr ⟨rfl, c2⟩⟩
end Go.Mt
namespace Go.Mt
open Go Go.Kx Go.Proofs.YtfngacepjcdlnaaDoor
theorem above_getD (r : Pr) (k : Nat) : (above r).getD k Pr.zero = if k = 0 then r else Pr.zero := by
  cases k with
  | zero => rfl
  | succ k =>
    rw [if_neg (by omega)]
    have := zeros_getD (k + 1)
    exact this
theorem deep_rep {key name : List UInt8} {i : Nat} (hi : i < roomN 5) : ∀ {u d : Nat} {r : Pr} {ch : Ch} {f : Nat → Option (List UInt8)} {S : List Nat}, d + u = 5 → Rep key name ch.st d 0 r f S → (∀ j, roomN d ≤ j → f j = none) → ch.st.ok → Small ch u →
    ∃ N, Step ch (deepP key name i u d r ch).2 N [] ∧ N.length ≤ u ∧
      (((deepP key name i u d r ch).1.2.2 = 0 ∧ ∃ S', Rep key name (deepP key name i u d r ch).2.st (deepP key name i u d r ch).1.2.1 0 (deepP key name i u d r ch).1.1 f S' ∧ (∀ a, S'.count a = S.count a + N.count a) ∧ i < roomN (deepP key name i u d r ch).1.2.1 ∧ (deepP key name i u d r ch).1.2.1 ≤ 5 ∧
          ((deepP key name i u d r ch).1.2.1 = d ∨ d < (deepP key name i u d r ch).1.2.1 ∧ roomN ((deepP key name i u d r ch).1.2.1 - 1) ≤ i) ∧ ∀ j, roomN (deepP key name i u d r ch).1.2.1 ≤ j → f j = none) ∨
       ((deepP key name i u d r ch).1.2.2 = 12 ∧ (deepP key name i u d r ch).2.st.room ≤ (deepP key name i u d r ch).2.st.count))
  | 0, d, r, ch, f, S, hd, h, hf, ho, hsm => by
    obtain rfl : d = 5 := by omega
    rw [deepP]
    exact ⟨[], Step.refl ch, by simp, .inl ⟨rfl, S, h, fun a => by simp, hi, Nat.le_refl _, .inl rfl, hf⟩⟩
  | u + 1, d, r, ch, f, S, hd, h, hf, ho, hsm => by
    rw [deepP]
    by_cases hlt : i < roomN d
    · rw [if_pos hlt]
      exact ⟨[], Step.refl ch, by simp, .inl ⟨rfl, S, h, fun a => by simp, hlt, by simp only; omega, .inl rfl, hf⟩⟩
    rw [if_neg hlt]
    obtain ⟨N, s1, n1, s2⟩ := node_rep (key := key) (name := name) (ch := ch) (lv := d) (fst := 0) (ps := above r) (f := f) (Ss := fun j => if j = 0 then S else []) rfl ho (hsm.mono (by omega)) (by
      intro k hk
      rw [above_getD]
      by_cases e : k = 0
      · subst e; rw [if_pos rfl, if_pos rfl, Nat.zero_mul]; exact h
      · rw [if_neg e, if_neg e]
        refine rep_zero key name ch.st fun j hj hj' => hf j ?_
        have : roomN d ≤ k * roomN d := Nat.le_mul_of_pos_left _ (by omega)
        omega)
    generalize hr : ch.node key name (d + 1) 0 (above r) = res at *
    obtain ⟨⟨q, cq⟩, ch2⟩ := res
    simp only at s1 s2 ⊢
    rcases s2 with ⟨rfl, S2, r1, r2⟩ | ⟨rfl, c2⟩
    · rw [if_pos rfl]
      have hle : roomN d ≤ roomN (d + 1) := by rw [roomN_succ]; omega
      obtain ⟨N2, t1, n2, t2⟩ := deep_rep hi (u := u) (d := d + 1) (r := q) (ch := ch2) (f := f) (S := S2) (by omega) r1 (fun j hj => hf j (by omega)) (s1.1.ok ho) (s1.small hsm (by omega) (by simp))
      refine ⟨N ++ N2, s1.trans t1, by simp; omega, ?_⟩
      rcases t2 with ⟨c1, S', c2, c3, c4, c5, c6, c7⟩ | c1
      · refine .inl ⟨c1, S', c2, fun a => ?_, c4, c5, .inr ?_, c7⟩
        · have e1 := c3 a
          have e2 := r2 a
          have e3 := count_upd (fun _ => []) 0 S a 14
          have e4 : ((List.range 14).flatMap fun _ => ([] : List Nat)) = [] := List.flatMap_eq_nil_iff.2 fun _ _ => rfl
          rw [if_pos (by omega), if_pos (by omega), e4] at e3
          simp only [List.count_nil] at e3
          rw [List.count_append]
          omega
        · rcases c6 with e | ⟨e1, e2⟩
          · rw [e]; exact ⟨by omega, by rw [Nat.add_sub_cancel]; omega⟩
          · exact ⟨by omega, e2⟩
      · exact .inr c1
    · rw [if_neg (by omega)]
      exact ⟨N, s1, by omega, .inr ⟨rfl, c2⟩⟩
theorem drop_ok {st : St} (h : st.ok) (m : Nat) : (st.drop m).ok := by
  unfold St.drop
  split
  · unfold St.ok at *; rw [List.length_set]; exact h
  · exact h
theorem drop_at {st : St} (h : st.ok) (m n : Nat) : (st.drop m).at n = if n = m then none else st.at n := by
  unfold St.ok at h
  unfold St.drop
  by_cases hs : (st.at m).isSome = true
  · rw [if_pos hs]
    obtain ⟨b, hb⟩ := Option.isSome_iff_exists.1 hs
    have hm := at_lt hb
    by_cases e : n = m
    · subst e
      rw [if_pos rfl]
      refine at_no (.inr (.inr ?_))
      simp [List.getD, show n - 1 < st.is.length by omega]
    · rw [if_neg e]
      unfold St.at
      by_cases h0 : 1 ≤ n
      · rw [show (st.is.set (m - 1) false).getD (n - 1) false = st.is.getD (n - 1) false by simp only [List.getD]; rw [List.getElem?_set_ne (by omega)]]
      · rw [if_neg fun h => h0 h.1, if_neg fun h => h0 h.1]
  · rw [if_neg hs]
    by_cases e : n = m
    · subst e
      rw [if_pos rfl]
      cases hx : st.at n with
      | none => rfl
      | some b => rw [hx] at hs; exact absurd rfl hs
    · rw [if_neg e]
theorem dropAll_ok : ∀ {l : List Nat} {st : St}, st.ok → (dropAll st l).ok
  | [], st, h => h
  | m :: l, st, h => dropAll_ok (l := l) (drop_ok h m)
theorem dropAll_at : ∀ {l : List Nat} {st : St}, st.ok → ∀ n, (dropAll st l).at n = if n ∈ l then none else st.at n
  | [], st, h, n => rfl
  | m :: l, st, h, n => by
    rw [show dropAll st (m :: l) = dropAll (st.drop m) l from rfl, dropAll_at (drop_ok h m), drop_at h]
    by_cases h1 : n ∈ l
    · rw [if_pos h1, if_pos (List.mem_cons_of_mem _ h1)]
    · rw [if_neg h1]
      by_cases h2 : n = m
      · rw [if_pos h2, if_pos (by rw [h2]; exact List.mem_cons_self ..)]
      · rw [if_neg h2, if_neg fun h => (List.mem_cons.1 h).elim h2 h1]
theorem dropAll_b : ∀ (l : List Nat) (st : St), (dropAll st l).b = st.b ∧ (dropAll st l).room = st.room
  | [], st => ⟨rfl, rfl⟩
  | m :: l, st => by
    have h := dropAll_b l (st.drop m)
    have h2 := drop_b st m
    exact ⟨h.1.trans h2.1, h.2.trans h2.2⟩
def Held (st : St) (L : List Nat) : Prop := st.ok ∧ ∀ a, L.count a = st.one a
theorem one_le (st : St) (a : Nat) : st.one a ≤ 1 := by unfold St.one; split <;> omega
theorem one_some {st : St} {n : Nat} {b : List UInt8} (h : st.at n = some b) : st.one n = 1 := by unfold St.one; rw [h]; rfl
theorem one_pos {st : St} {n : Nat} (h : 0 < st.one n) : ∃ b, st.at n = some b := by
  unfold St.one at h
  split at h
  · rename_i hs; exact Option.isSome_iff_exists.1 hs
  · omega
theorem end_ok {st : St} {ch : Ch} {N G S S' X : List Nat} (hs : Step ⟨st, [], []⟩ ch N G) (hH : Held st (S ++ X)) (hc : ∀ a, S'.count a + G.count a = S.count a + N.count a) :
    Held (dropAll ch.st ch.gone) (S' ++ X) ∧ (∀ n ∈ S' ++ X, (dropAll ch.st ch.gone).at n = ch.st.at n) ∧ ∀ n ∈ X, ch.st.at n = st.at n := by
  have hg : ch.gone = G := hs.2.2
  have ho : ch.st.ok := hs.1.ok hH.1
  have hone : ∀ a, ch.st.one a = st.one a + N.count a := hs.1.one hH.1
  have hall : ∀ a, S'.count a + G.count a + X.count a = ch.st.one a := fun a => by
    have h1 := hH.2 a
    have h2 := hc a
    have h3 := hone a
    rw [List.count_append] at h1
    omega
  have hat := dropAll_at (l := ch.gone) ho
  refine ⟨⟨dropAll_ok ho, fun a => ?_⟩, fun n hn => ?_, fun n hn => ?_⟩
  · have h1 := hall a
    have h2 := one_le ch.st a
    rw [List.count_append]
    unfold St.one
    rw [hat a, hg]
    by_cases hm : a ∈ G
    · have := List.count_pos_iff.2 hm
      rw [if_pos hm]
      show _ = 0
      omega
    · have := List.count_eq_zero.2 hm
      rw [if_neg hm]
      show _ = ch.st.one a
      omega
  · rw [hat n, hg, if_neg]
    intro hm
    have h1 := hall n
    have h2 := one_le ch.st n
    have h3 := List.count_pos_iff.2 hm
    have h4 := List.count_pos_iff.2 hn
    rw [List.count_append] at h4
    omega
  · have h1 := hH.2 n
    have h2 := List.count_pos_iff.2 hn
    rw [List.count_append] at h1
    obtain ⟨b, hb⟩ := one_pos (st := st) (n := n) (by omega)
    rw [hb]
    exact hs.1.some hH.1 hb
theorem end_no {st : St} {ch : Ch} {N G L : List Nat} (hs : Step ⟨st, [], []⟩ ch N G) (hH : Held st L) :
    Held (dropAll ch.st ch.saved) L ∧ ∀ n b, st.at n = some b → (dropAll ch.st ch.saved).at n = some b := by
  have hg : ch.saved = N := hs.2.1
  have ho : ch.st.ok := hs.1.ok hH.1
  have hone : ∀ a, ch.st.one a = st.one a + N.count a := hs.1.one hH.1
  have hat := dropAll_at (l := ch.saved) ho
  refine ⟨⟨dropAll_ok ho, fun a => ?_⟩, fun n b hb => ?_⟩
  · have h1 := hone a
    have h2 := one_le ch.st a
    have h3 := hH.2 a
    rw [h3]
    rw [show (dropAll ch.st ch.saved).one a = if ((dropAll ch.st ch.saved).at a).isSome = true then 1 else 0 from rfl, hat a, hg]
    by_cases hm : a ∈ N
    · have := List.count_pos_iff.2 hm
      rw [if_pos hm]
      show _ = 0
      omega
    · have := List.count_eq_zero.2 hm
      rw [if_neg hm]
      show _ = ch.st.one a
      omega
  · have h1 := hs.1.some hH.1 hb
    have h2 := hone n
    have h3 := one_some hb
    have h4 := one_le ch.st n
    rw [hat n, hg, if_neg, h1]
    intro hm
    have := List.count_pos_iff.2 hm
    omega
structure Tree (key name : List UInt8) (st : St) (r : Pr) (d : Nat) (f : Nat → Option (List UInt8)) (S : List Nat) : Prop where
  rep : Rep key name st d 0 r f S
  le : d ≤ 5
  out : ∀ j, roomN d ≤ j → f j = none
theorem Tree.sub {key name : List UInt8} {st st' : St} {r : Pr} {d : Nat} {f : Nat → Option (List UInt8)} {S : List Nat} (h : Tree key name st r d f S) (hs : ∀ n ∈ S, ∀ b, st.at n = some b → st'.at n = some b) : Tree key name st' r d f S :=
  ⟨h.rep.sub hs fun _ _ _ => rfl, h.le, h.out⟩
theorem tree_nil (key name : List UInt8) (st : St) : Tree key name st Pr.zero 0 (fun _ => none) [] := ⟨rep_zero key name st fun _ _ _ => rfl, by omega, fun _ _ => rfl⟩
theorem Tree.wf {key name : List UInt8} {st : St} {r : Pr} {d : Nat} {f : Nat → Option (List UInt8)} {S : List Nat} (h : Tree key name st r d f S) (hb : st.b.length ≤ 1000000) : r.wf := (h.rep.okp hb).wf
def putS (key name : List UInt8) (st : St) (r : Pr) (d i : Nat) (b : List UInt8) : St := dropAll (putT key name st r d i b).2.st ((putT key name st r d i b).2.goes (putT key name st r d i b).1.2.2)
theorem putT_rep {key name : List UInt8} {st : St} {r : Pr} {d i : Nat} {b : List UInt8} {f : Nat → Option (List UInt8)} {S X : List Nat} (ht : Tree key name st r d f S) (hH : Held st (S ++ X)) (hi : i < roomN 5) (hb : st.b.length ≤ 999000) :
    (∀ n ∈ X, ∀ x, st.at n = some x → (putS key name st r d i b).at n = some x) ∧ (putS key name st r d i b).b.length ≤ st.b.length + 12 ∧ (putS key name st r d i b).room = st.room ∧
    (((putT key name st r d i b).1.2.2 = 0 ∧ ∃ S', Tree key name (putS key name st r d i b) (putT key name st r d i b).1.1 (putT key name st r d i b).1.2.1 (upd f i (some b)) S' ∧ Held (putS key name st r d i b) (S' ++ X) ∧ i < roomN (putT key name st r d i b).1.2.1 ∧
        ((putT key name st r d i b).1.2.1 = d ∨ d < (putT key name st r d i b).1.2.1 ∧ roomN ((putT key name st r d i b).1.2.1 - 1) ≤ i)) ∨
     ((putT key name st r d i b).1.2.2 = 12 ∧ Held (putS key name st r d i b) (S ++ X) ∧ (∀ n b', st.at n = some b' → (putS key name st r d i b).at n = some b') ∧ st.room ≤ st.count + 11)) := by
  have hdeep := deep_rep (key := key) (name := name) hi (u := 5 - d) (d := d) (r := r) (ch := ⟨st, [], []⟩) (f := f) (S := S) (by have := ht.le; omega) ht.rep ht.out hH.1 ⟨by simp only; omega, by simp; omega, by simp; omega⟩
  unfold putS putT
  generalize deepP key name i (5 - d) d r ⟨st, [], []⟩ = D at *
  obtain ⟨⟨r', d', c⟩, ch⟩ := D
  simp only at hdeep ⊢
  obtain ⟨N, s1, n1, s2⟩ := hdeep
  have fail : ∀ {ch' : Ch} {N' G' : List Nat}, Step ⟨st, [], []⟩ ch' N' G' → N'.length ≤ 11 → ch'.st.room ≤ ch'.st.count →
      (∀ n ∈ X, ∀ b, st.at n = some b → (dropAll ch'.st (ch'.goes 12)).at n = some b) ∧ (dropAll ch'.st (ch'.goes 12)).b.length ≤ st.b.length + 12 ∧ (dropAll ch'.st (ch'.goes 12)).room = st.room ∧
      Held (dropAll ch'.st (ch'.goes 12)) (S ++ X) ∧ (∀ n b', st.at n = some b' → (dropAll ch'.st (ch'.goes 12)).at n = some b') ∧ st.room ≤ st.count + 11 := by
    intro ch' N' G' hs hn hr
    have hgo : ch'.goes 12 = ch'.saved := rfl
    rw [hgo]
    have h1 := end_no hs hH
    have h2 := dropAll_b ch'.saved ch'.st
    have h3 := hs.1.len
    have h4 := hs.1.count
    have h5 := hs.1.room
    simp only at h3 h4 h5
    exact ⟨fun n _ b hb => h1.2 n b hb, by rw [h2.1]; omega, by rw [h2.2, h5], h1.1, h1.2, by omega⟩
  rcases s2 with ⟨rfl, S1, r1, r2, r3, r4, r5, r6⟩ | ⟨rfl, c2⟩
  · simp only [if_true]
    have ho1 := s1.1.ok hH.1
    obtain ⟨N2, G2, t1, n2, g2, t2⟩ := put_rep (b := b) r1 (Nat.zero_le i) (by omega) ho1 (by
      have h1 := s1.1.len
      have h2 := s1.2.1
      have h3 := s1.2.2
      simp only [List.nil_append] at h2 h3 h1
      exact ⟨by omega, by rw [h2]; omega, by rw [h3]; simp; omega⟩)
    have hs := s1.trans t1
    simp only [List.nil_append] at hs
    generalize putP key name d' 0 r' i b ch = D at *
    obtain ⟨⟨q, cq⟩, ch2⟩ := D
    simp only at t1 t2 hs ⊢
    rcases t2 with ⟨rfl, S', u1, u2⟩ | ⟨rfl, u2⟩
    · have he := end_ok (S' := S') hs hH fun a => by
        have e1 := u2 a
        have e2 := r2 a
        rw [List.count_append]; omega
      have hgo : ch2.goes 0 = ch2.gone := rfl
      rw [hgo]
      have h2 := dropAll_b ch2.gone ch2.st
      have h3 := hs.1.len
      have h5 := hs.1.room
      simp only [List.length_append] at h3 h5
      refine ⟨fun n hn b' hb' => ?_, by rw [h2.1]; omega, by rw [h2.2, h5], .inl ⟨by trivial, S', ⟨u1.sub (fun n hn b' hb' => ?_) fun _ _ _ => rfl, r4, fun j hj => ?_⟩, he.1, r3, r5⟩⟩
      · rw [he.2.1 n (List.mem_append_right _ hn), he.2.2 n hn]; exact hb'
      · rw [he.2.1 n (List.mem_append_left _ hn)]; exact hb'
      · unfold upd
        rw [if_neg (by omega)]
        exact r6 j hj
    · obtain ⟨a1, a2, a3, a4, a5, a6⟩ := fail hs (by simp; omega) u2
      exact ⟨a1, a2, a3, .inr ⟨by trivial, a4, a5, a6⟩⟩
  · simp only [show ¬ (12 : Nat) = 0 by omega, if_false]
    obtain ⟨a1, a2, a3, a4, a5, a6⟩ := fail s1 (by omega) c2
    exact ⟨a1, a2, a3, .inr ⟨by trivial, a4, a5, a6⟩⟩
def getP (key name : List UInt8) (st : St) : Nat → Nat → Pr → Nat → Option (Option (List UInt8))
  | 0, fst, p, i => if p.sec = 0 then some none else (ldP key name st p 0 fst).map some
  | lv + 1, fst, p, i => if p.sec = 0 then some none else
    match ptsP key name st p (lv + 1) fst with
    | none => none
    | some ps => getP key name st lv (fst + (i - fst) / roomN lv * roomN lv) (ps.getD ((i - fst) / roomN lv) Pr.zero) i
theorem Rep.get {key name : List UInt8} {st : St} : ∀ {lv fst : Nat} {p : Pr} {f : Nat → Option (List UInt8)} {S : List Nat} {i : Nat}, Rep key name st lv fst p f S → fst ≤ i → i < fst + roomN lv → getP key name st lv fst p i = some (f i)
  | 0, fst, p, f, S, i, h, h1, h2 => by
    obtain rfl : i = fst := by simp [roomN] at h2; omega
    rw [getP]
    rcases h with ⟨rfl, h3, _⟩ | ⟨b, h0, h3, h4, _⟩
    · rw [if_pos (show Pr.zero.sec = 0 from rfl), h3]
    · rw [if_neg h0, h3, h4]; rfl
  | lv + 1, fst, p, f, S, i, h, h1, h2 => by
    rw [getP]
    by_cases h0 : p.sec = 0
    · rw [if_pos h0, (h.sec0 h0).2.2 i h1 h2]
    · rw [if_neg h0]
      obtain ⟨ps, Ss, hp, h14, hk, _, _⟩ := h.kids
      rw [hp]
      simp only
      obtain ⟨k1, k2, k3⟩ := hold_lt h1 h2
      exact (hk _ k1).get k2 k3
def catO (g : Nat → Option (List Nat)) : Nat → Option (List Nat)
  | 0 => some []
  | m + 1 => match catO g m, g m with
    | some a, some b => some (a ++ b)
    | _, _ => none
theorem catO_none {g : Nat → Option (List Nat)} {i : Nat} (h : g i = none) : ∀ m, i < m → catO g m = none
  | m + 1, hm => by
    rw [catO]
    by_cases e : i = m
    · subst e; rw [h]; cases catO g i <;> rfl
    · rw [catO_none h m (by omega)]
theorem catO_some {g : Nat → Option (List Nat)} {Ss : Nat → List Nat} : ∀ m, (∀ k, k < m → g k = some (Ss k)) → catO g m = some ((List.range m).flatMap Ss)
  | 0, _ => rfl
  | m + 1, h => by
    rw [catO, catO_some m fun k hk => h k (by omega), h m (by omega), List.range_succ, List.flatMap_append]
    simp
def underP (key name : List UInt8) (st : St) : Nat → Nat → Pr → Option (List Nat)
  | 0, fst, p => if p.sec = 0 then some [] else (ldP key name st p 0 fst).map fun _ => [p.sec]
  | lv + 1, fst, p => if p.sec = 0 then some [] else
    match ptsP key name st p (lv + 1) fst with
    | none => none
    | some ps => (catO (fun k => underP key name st lv (fst + k * roomN lv) (ps.getD k Pr.zero)) 14).map (p.sec :: ·)
theorem Rep.under {key name : List UInt8} {st : St} : ∀ {lv fst : Nat} {p : Pr} {f : Nat → Option (List UInt8)} {S : List Nat}, Rep key name st lv fst p f S → underP key name st lv fst p = some S
  | 0, fst, p, f, S, h => by
    rw [underP]
    rcases h with ⟨rfl, _, rfl⟩ | ⟨b, h0, h3, _, rfl⟩
    · rw [if_pos (show Pr.zero.sec = 0 from rfl)]
    · rw [if_neg h0, h3]; rfl
  | lv + 1, fst, p, f, S, h => by
    rw [underP]
    by_cases h0 : p.sec = 0
    · rw [if_pos h0, (h.sec0 h0).2.1]
    · rw [if_neg h0]
      obtain ⟨ps, Ss, hp, h14, hk, rfl, _⟩ := h.kids
      rw [hp]
      simp only
      rw [catO_some 14 fun k hk' => (hk k hk').under]
      simp [hd, h0]
theorem Held.count {st : St} {L : List Nat} (h : Held st L) : st.count = L.length := by
  have hd : L.Nodup := List.nodup_iff_count.2 fun a => by rw [h.2 a]; exact one_le st a
  have key1 : ∀ l : List Bool, l.count true = ((List.range l.length).filter fun i => l.getD i false).length := by
    intro l
    have h : ∀ i, i ≤ l.length → (l.take i).count true = ((List.range i).filter fun i => l.getD i false).length := by
      intro i
      induction i with
      | zero => intro _; rfl
      | succ i ih =>
        intro hi
        rw [List.take_succ_eq_append_getElem (by omega), List.count_append, ih (by omega), List.range_succ, List.filter_append, List.length_append]
        congr 1
        have e : l.getD i false = l[i] := by simp [List.getD, show i < l.length by omega]
        simp only [List.filter_cons, List.filter_nil]
        rw [e]
        cases l[i] <;> rfl
    have := h l.length (Nat.le_refl _)
    rw [List.take_length] at this
    exact this
  have hp : L.Perm (((List.range st.is.length).filter fun i => st.is.getD i false).map (· + 1)) := by
    refine (List.perm_ext_iff_of_nodup hd ?_).2 fun a => ?_
    · rw [List.nodup_iff_pairwise_ne, List.pairwise_map]
      exact ((List.nodup_iff_pairwise_ne.1 List.nodup_range).filter _).imp fun h e => h (by omega)
    · have h1 := h.2 a
      have ho := h.1
      unfold St.ok at ho
      rw [← List.count_pos_iff, h1]
      simp only [List.mem_map, List.mem_filter, List.mem_range]
      constructor
      · intro hp
        obtain ⟨b, hb⟩ := one_pos hp
        have hl := at_lt hb
        refine ⟨a - 1, ⟨by omega, ?_⟩, by omega⟩
        rcases Bool.eq_false_or_eq_true (st.is.getD (a - 1) false) with h3 | h3
        · exact h3
        · rw [at_no (.inr (.inr h3))] at hb; cases hb
      · rintro ⟨i, ⟨hi, hx⟩, rfl⟩
        rw [one_some (at_yes (st := st) (n := i + 1) (by omega) (by omega) hx)]
        omega
  unfold St.count
  rw [key1, hp.length_eq, List.length_map]
end Go.Mt
