/- Trees, plainly: a tree's root under another key or name. Own work. -/
import Derived.Test.YtfngacepjcdlnaaDoorQNe
set_option linter.unusedVariables false
namespace Go.Mt
open Go Go.Kx Go.Proofs.YtfngacepjcdlnaaDoor
theorem Rep.root {key name : List UInt8} {st : St} {lv fst : Nat} {p : Pr} {f : Nat → Option (List UInt8)} {S : List Nat} {i : Nat} (h : Rep key name st lv fst p f S) (h1 : fst ≤ i) (h2 : i < fst + roomN lv) (hf : f i ≠ none) :
  p.sec ≠ 0 ∧ p.sec ∈ S ∧ ∃ b, st.at p.sec = some b ∧ macB key name lv fst b = p.mac := by
 have h0 : p.sec ≠ 0 := fun h0 => hf ((h.sec0 h0).2.2 i h1 h2)
 refine ⟨h0, ?_⟩
 cases lv with
 | zero =>
  rcases h with ⟨rfl, _⟩ | ⟨b, _, h3, _, hS⟩
  ·exact absurd rfl h0
  ·exact ⟨by rw [hS]; simp, b, ldP_some h3⟩
 | succ lv =>
  obtain ⟨ps, Ss, hp, _, _, hS, _⟩ := h.kids
  refine ⟨by rw [hS]; simp [hd, h0], ?_⟩
  unfold ptsP at hp
  rw [if_neg h0] at hp
  cases hl : ldP key name st p (lv + 1) fst with
  | none => rw [hl] at hp; cases hp
  | some b => exact ⟨b, ldP_some hl⟩
theorem ldP_other {key name : List UInt8} {st : St} {p : Pr} {lv fst : Nat} {b : List UInt8} (h : st.at p.sec = some b) (hm : macB key name lv fst b ≠ p.mac) : ldP key name st p lv fst = none := by
 cases hl : ldP key name st p lv fst with
 | none => rfl
 | some b' =>
  have h1 := ldP_some hl
  rw [h] at h1
  obtain rfl := Option.some.inj h1.1
  exact absurd h1.2 hm
theorem getT_other {key name : List UInt8} {st : St} {r : Pr} {d i : Nat} {b : List UInt8} (h0 : r.sec ≠ 0) (h : st.at r.sec = some b) (hm : macB key name d 0 b ≠ r.mac) (hd : d ≤ 5) (hi : i < roomN d) : getT key name st r (d : Int) (i : Int) = (13, none) := by
 have hl := ldP_other h hm
 have hg : getP key name st d 0 r i = none := by
  cases d with
  | zero => rw [getP, if_neg h0, hl]; rfl
  | succ d =>
   have hp : ptsP key name st r (d + 1) 0 = none := by unfold ptsP; rw [if_neg h0, hl]
   rw [getP, if_neg h0, hp]
 unfold getT
 rw [if_neg (by omega), roomZ_nat hd, if_neg (by omega), Int.toNat_natCast, Int.toNat_natCast, hg]
theorem at_get {st : St} {n : Nat} {b : List UInt8} (h : st.at n = some b) : (st.b.map Go.Kx.strV)[n - 1]? = some (Go.Kx.strV b) ∧ 1 ≤ n ∧ n ≤ st.b.length := by
 obtain ⟨h1, h2⟩ := at_lt h
 refine ⟨?_, h1, h2⟩
 unfold St.at at h
 split at h
 ·have hb := Option.some.inj h
  have e : st.b.getD (n - 1) [] = st.b[n - 1]'(by omega) := by simp [List.getD, show n - 1 < st.b.length by omega]
  rw [e] at hb
  rw [List.getElem?_map, List.getElem?_eq_getElem (by omega), hb]; rfl
 ·cases h
theorem at_mem {st : St} {n : Nat} {b : List UInt8} (h : st.at n = some b) : b ∈ st.b := by
 obtain ⟨h1, h2⟩ := at_lt h
 unfold St.at at h
 split at h
 ·have hb := Option.some.inj h
  have e : st.b.getD (n - 1) [] = st.b[n - 1]'(by omega) := by simp [List.getD, show n - 1 < st.b.length by omega]
  rw [← hb, e]
  exact List.getElem_mem _
 ·cases h
end Go.Mt
