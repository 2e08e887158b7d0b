/- A ring in which one entry stays as it is, whatever is done to others. Plain. -/
import Derived.Test.YtfngacepjcdlnaaDoorMGe
set_option linter.unusedVariables false
namespace Go.Proofs.YtfngacepjcdlnaaDoor
open Go Go.Kx Go.Kr
structure Apart (A K : List UInt8) (L : Ring) (i : Nat) : Prop where
  good : Kr.Good L
  mem : (⟨A, K, 0⟩ : Ent) ∈ L
  few : ∀ e ∈ L, e.holds ≤ i
theorem Apart.mono {A K : List UInt8} {L : Ring} {i j : Nat} (h : Apart A K L i) (hij : i ≤ j) : Apart A K L j := ⟨h.good, h.mem, fun e he => Nat.le_trans (h.few e he) hij⟩
theorem mem_set_ne {L : Ring} {x : List UInt8} {a e : Ent} (hh : hit x L = true) (hm : a ∈ L) (hx : x ≠ a.id) : a ∈ L.set (pos x L) e := by
  obtain ⟨hl, he⟩ := hit_iff.1 hh
  obtain ⟨j, hj, rfl⟩ := List.getElem_of_mem hm
  have hne : pos x L ≠ j := fun h => by subst h; exact hx he.symm
  rw [← List.getElem_set_ne hne (a := e) (by simpa using hj)]
  exact List.getElem_mem _
theorem mem_drop_ne {L : Ring} {x : List UInt8} {a e : Ent} (hh : hit x L = true) (hm : a ∈ L) (hx : x ≠ a.id) : a ∈ drop (pos x L) e L := by
  unfold drop
  split
  · obtain ⟨hl, he⟩ := hit_iff.1 hh
    obtain ⟨j, hj, rfl⟩ := List.getElem_of_mem hm
    exact List.mem_eraseIdx_iff_getElem.2 ⟨j, hj, fun h => by subst h; exact hx he.symm, rfl⟩
  · exact mem_set_ne hh hm hx
theorem drop_few {L : Ring} {p i : Nat} {e : Ent} (h : ∀ e ∈ L, e.holds ≤ i) (he : e.holds ≤ i) : ∀ x ∈ drop p e L, x.holds ≤ i := by
  intro x hx
  unfold drop at hx
  split at hx
  · exact h x ((List.eraseIdx_sublist _ _).subset hx)
  · rcases List.mem_or_eq_of_mem_set hx with h1 | rfl
    · exact h x h1
    · exact he
theorem Apart.add {A K x key : List UInt8} {L : Ring} {i : Nat} (h : Apart A K L i) (hi : x.length = 16) (hx : x ≠ A) : Apart A K (if addOk x key L = 0 then add x key L else L) i := by
  split
  · rename_i h0
    refine ⟨good_add h.good hi h0, ?_, ?_⟩
    · rcases Bool.eq_false_or_eq_true (hit x L) with hh | hh
      · unfold Kr.add; rw [if_pos hh]; exact mem_set_ne hh h.mem hx
      · exact (add_mem hh _).2 (.inr h.mem)
    · intro e he
      rcases Bool.eq_false_or_eq_true (hit x L) with hh | hh
      · unfold Kr.add at he
        rw [if_pos hh] at he
        rcases List.mem_or_eq_of_mem_set he with h1 | rfl
        · exact h.few e h1
        · exact h.few (Kr.ent x L) (ent_mem hh)
      · rcases (add_mem hh e).1 he with rfl | h1
        · exact Nat.zero_le _
        · exact h.few e h1
  · exact h
theorem Apart.remove {A K x : List UInt8} {L : Ring} {i : Nat} (h : Apart A K L i) (hx : x ≠ A) : Apart A K (if stat x L = 1 then remove x L else L) i := by
  split
  · rename_i h1
    have hh := (stat_one.1 h1).1
    exact ⟨good_remove h.good hh, mem_drop_ne hh h.mem hx, drop_few h.few (h.few (Kr.ent x L) (ent_mem hh))⟩
  · exact h
theorem Apart.hold {A K x : List UInt8} {L : Ring} {i : Nat} (h : Apart A K L i) (hx : x ≠ A) : Apart A K (if stat x L = 1 then hold x L else L) (i + 1) := by
  split
  · rename_i h1
    have hh := (stat_one.1 h1).1
    refine ⟨good_hold h.good hh, mem_set_ne hh h.mem hx, fun e he => ?_⟩
    rcases List.mem_or_eq_of_mem_set he with h2 | rfl
    · exact Nat.le_succ_of_le (h.few e h2)
    · exact Nat.succ_le_succ (h.few (Kr.ent x L) (ent_mem hh))
  · exact h.mono (by omega)
theorem Apart.release {A K x : List UInt8} {L : Ring} {i : Nat} (h : Apart A K L i) (hx : x ≠ A) : Apart A K (if hit x L = true ∧ 0 < (ent x L).holds then release x L else L) i := by
  split
  · rename_i h1
    have hh := h1.1
    exact ⟨good_release h.good hh, mem_drop_ne hh h.mem hx, drop_few h.few (by have := h.few (Kr.ent x L) (ent_mem hh); simp only; omega)⟩
  · exact h
theorem Apart.ent {A K : List UInt8} {L : Ring} {i : Nat} (h : Apart A K L i) (hK : K ≠ []) : Kr.ent A L = ⟨A, K, 0⟩ ∧ stat A L = 1 := by
  have hh : hit A L = true := (hit_mem h.good.sorted).2 ⟨_, h.mem, rfl⟩
  have he : Kr.ent A L = ⟨A, K, 0⟩ := by
    obtain ⟨hl, e1, _⟩ := ent_eq hh
    obtain ⟨j, hj, hje⟩ := List.getElem_of_mem h.mem
    have := pos_eq h.good.sorted hj (by rw [hje])
    rw [e1, ← hje]
    simp only [this]
  exact ⟨he, stat_one.2 ⟨hh, by rw [he]; exact hK⟩⟩
end Go.Proofs.YtfngacepjcdlnaaDoor
