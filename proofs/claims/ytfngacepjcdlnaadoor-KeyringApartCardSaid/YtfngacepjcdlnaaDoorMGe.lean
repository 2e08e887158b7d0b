/- A ring filled with the keys of a law: its entries are apart. Plain. -/
import Derived.Test.YtfngacepjcdlnaaDoorMFa
import Derived.Test.YtfngacepjcdlnaaDoorMGd
set_option linter.unusedVariables false
namespace Go.Proofs.YtfngacepjcdlnaaDoor
open Go Go.Kx Go.Kr
theorem hit_mem {id : List UInt8} {L : Ring} (hs : Sorted L) : hit id L = true ↔ ∃ e ∈ L, e.id = id := by
  constructor
  · intro h
    obtain ⟨hl, he⟩ := hit_iff.1 h
    exact ⟨_, List.getElem_mem hl, he⟩
  · rintro ⟨e, hm, he⟩
    obtain ⟨i, hi, rfl⟩ := List.getElem_of_mem hm
    exact hit_of hs hi he
theorem add_mem {id key : List UInt8} {L : Ring} (h : hit id L = false) (x : Ent) : x ∈ add id key L ↔ x = ⟨id, key, 0⟩ ∨ x ∈ L := by
  unfold add
  rw [if_neg (by rw [h]; decide)]
  simp only [List.mem_append, List.mem_cons]
  constructor
  · rintro (h | h | h)
    · exact .inr (List.mem_of_mem_take h)
    · exact .inl h
    · exact .inr (List.mem_of_mem_drop h)
  · rintro (h | h)
    · exact .inr (.inl h)
    · rw [← List.take_append_drop (pos id L) L, List.mem_append] at h
      rcases h with h | h
      · exact .inl h
      · exact .inr (.inr h)
theorem add_len {id key : List UInt8} {L : Ring} (h : hit id L = false) : (add id key L).length = L.length + 1 := by
  unfold add
  rw [if_neg (by rw [h]; decide)]
  have := pos_le id L
  simp; omega
theorem add_len' {id key : List UInt8} {L : Ring} (h : hit id L = true) : (add id key L).length = L.length := by
  unfold add
  rw [if_pos h]; simp
/-- The key of place i. -/
def kf (i : Nat) : List UInt8 := List.replicate 16 (UInt8.ofNat i)
def fullL : Nat → Ring
  | 0 => []
  | i + 1 => if addOk (idK (kf i)) (kf i) (fullL i) = 0 then add (idK (kf i)) (kf i) (fullL i) else fullL i
theorem full_ok : ∀ i, i ≤ 20 → Kr.Good (fullL i) ∧ (fullL i).length = min i 16 ∧ ∀ j < 20, (hit (idK (kf j)) (fullL i) = true ↔ j < min i 16) := by
  intro i
  induction i with
  | zero => intro _; exact ⟨Kr.Good.nil, rfl, fun j hj => by rw [fullL, hit_mem Kr.Good.nil.sorted]; simp⟩
  | succ i ih =>
    intro hi
    obtain ⟨hg, hl, hh⟩ := ih (by omega)
    have hk : (kf i).length = 16 := by simp [kf]
    by_cases h16 : i < 16
    · have hn : hit (idK (kf i)) (fullL i) = false := by
        rcases Bool.eq_false_or_eq_true (hit (idK (kf i)) (fullL i)) with h | h
        · have := (hh i (by omega)).1 h; omega
        · exact h
      have ha : addOk (idK (kf i)) (kf i) (fullL i) = 0 := by unfold addOk; rw [if_neg (by omega), if_neg (by omega)]
      have hg' := good_add hg (idK_length (kf i)) ha
      rw [fullL, if_pos ha]
      refine ⟨hg', by rw [add_len hn]; omega, fun j hj => ?_⟩
      rw [hit_mem hg'.sorted]
      constructor
      · rintro ⟨e, hm, he⟩
        rcases (add_mem hn e).1 hm with rfl | hm
        · have := ids_ne (by omega) hj he; omega
        · have := (hh j hj).1 ((hit_mem hg.sorted).2 ⟨e, hm, he⟩); omega
      · intro h
        by_cases hji : j = i
        · subst hji; exact ⟨_, (add_mem hn _).2 (.inl rfl), rfl⟩
        · obtain ⟨e, hm, he⟩ := (hit_mem hg.sorted).1 ((hh j hj).2 (by omega))
          exact ⟨e, (add_mem hn _).2 (.inr hm), he⟩
    · have hn : hit (idK (kf i)) (fullL i) = false := by
        rcases Bool.eq_false_or_eq_true (hit (idK (kf i)) (fullL i)) with h | h
        · have := (hh i (by omega)).1 h; omega
        · exact h
      have ha : addOk (idK (kf i)) (kf i) (fullL i) = 12 := by unfold addOk; rw [if_neg (by omega), if_pos ⟨hn, by omega⟩]
      rw [fullL, if_neg (by omega)]
      exact ⟨hg, by omega, fun j hj => by rw [hh j hj]; omega⟩
theorem full_add {i : Nat} (hi : i < 20) : addOk (idK (kf i)) (kf i) (fullL i) = if i < 16 then 0 else 12 := by
  obtain ⟨hg, hl, hh⟩ := full_ok i (by omega)
  have hk : (kf i).length = 16 := by simp [kf]
  have hn : hit (idK (kf i)) (fullL i) = false := by
    rcases Bool.eq_false_or_eq_true (hit (idK (kf i)) (fullL i)) with h | h
    · have := (hh i (by omega)).1 h; omega
    · exact h
  unfold addOk
  rw [if_neg (by omega)]
  by_cases h : i < 16
  · rw [if_pos h, if_neg (by omega)]
  · rw [if_neg h, if_pos ⟨hn, by omega⟩]
theorem full_again {m : Nat} (h0 : 0 < m) (hm : m < 20) : addOk (idK (kf 0)) (kf 0) (fullL m) = 0 ∧ (add (idK (kf 0)) (kf 0) (fullL m)).length = min m 16 := by
  obtain ⟨hg, hl, hh⟩ := full_ok m (by omega)
  have hk : (kf 0).length = 16 := by simp [kf]
  have hn := (hh 0 (by omega)).2 (by omega)
  refine ⟨?_, by rw [add_len' hn, hl]⟩
  unfold addOk
  rw [if_neg (by omega), if_neg (by rw [hn]; simp)]
end Go.Proofs.YtfngacepjcdlnaaDoor
