/- The law SpaceActs: each act on both sides. -/
import Derived.Test.YtogfkmejgjodaaaRh
import Derived.Test.YtogfkmejgjodaaaSi
set_option linter.unusedVariables false
namespace Go.Proofs.Ytogfkmejgjodaaa
open Go Go.Kx
theorem RefAt.turn {w : World} {m m' : Nat → Prop} {r : Nat} {first fin : Int} {U G : List Int} (h : RefAt w m r first fin U G) (hm : ∀ j, j < w.heap.size → m j → m' j) : RefAt w m' r first fin U G := by
  obtain ⟨aU, aG, cU, cG, h⟩ := h
  exact ⟨aU, aG, cU, cG, h.head, h.u, h.g, h.ur, h.gr, h.ug, hm _ h.head.lt h.mr, fun j hj => hm j (h.u.lt j hj) (h.mu j hj), fun j hj => hm j (h.g.lt j hj) (h.mg j hj), h.lo, h.hi, h.lu, h.lg⟩
theorem RefAt.kp {S m : Nat → Prop} {w w' : World} {r : Nat} {first fin : Int} {U G : List Int} (h : RefAt w m r first fin U G) (hk : Kp S w w') (hS : ∀ j, S j → ¬ m j) : RefAt w' m r first fin U G := by
  obtain ⟨aU, aG, cU, cG, h⟩ := h; exact ⟨_, _, _, _, h.kp hk hS⟩
theorem Tie.small {first : Int} {st U G : List Int} (h : Tie first st U G) : U.length + G.length ≤ st.length := by
  have h1 := h.ok.total
  have h2 := usedL_length st first
  have h3 := h.cg
  rw [← h.used] at h2
  omega
theorem use_pair {first : Int} {st U G xs : List Int} {L : Nat} (h : Tie first st U G) (hL : st.length = L) (hL2 : L ≤ 60) : ∃ c st' U' G', trn first 0 1 xs st = (st', c) ∧ Tie first st' U' G' ∧ st'.length = L ∧
    ∀ {w : World} {m : Nat → Prop} {r : Nat} {a : Option Addr} {len cap : Nat}, RefAt w m r first (first + L) U G → (∀ j, w.heap.size ≤ j → m j) → SlE w .i64 a len cap xs (fun b => ¬ m b) → len ≤ 60 →
      Calls Try.prog 27 #[.pointer (some ⟨r, 0, none⟩), .slice a len cap] w fun e w' => e = .returned (.int .i64 c) ∧ RefAt w' m r first (first + L) U' G' ∧ Kp m w w' := by
  subst hL
  have hs := h.small
  by_cases hok : okAll first st 0 xs
  · obtain ⟨h1, h2⟩ := all_of_ok (by omega) hok
    refine ⟨0, setAll first 1 st xs, putAll U xs, G, by rw [trn, if_pos hok], h.useAll h1 h2, setAll_length .., fun hr hm hx hl => (use_r hr hm hx (by omega)).mono ?_⟩
    rintro e w' ⟨⟨hno, _, _⟩ | ⟨_, rfl, h3⟩, k⟩
    · exact absurd (h.useOk.2 hok) hno
    · exact ⟨rfl, h3, k⟩
  · refine ⟨2, st, U, G, by rw [trn, if_neg hok], h, rfl, fun hr hm hx hl => (use_r hr hm hx (by omega)).mono ?_⟩
    rintro e w' ⟨⟨_, rfl, h3⟩ | ⟨hno, _, _⟩, k⟩
    · exact ⟨rfl, h3, k⟩
    · exact absurd (h.useOk.1 hno) hok
theorem give_pair {first : Int} {st U G xs : List Int} {L : Nat} (h : Tie first st U G) (hL : st.length = L) (hL2 : L ≤ 60) : ∃ c st' U' G', trn first 1 2 xs st = (st', c) ∧ Tie first st' U' G' ∧ st'.length = L ∧
    ∀ {w : World} {m : Nat → Prop} {r : Nat} {a : Option Addr} {len cap : Nat}, RefAt w m r first (first + L) U G → (∀ j, w.heap.size ≤ j → m j) → SlE w .i64 a len cap xs (fun b => ¬ m b) → len ≤ 60 →
      Calls Try.prog 28 #[.pointer (some ⟨r, 0, none⟩), .slice a len cap] w fun e w' => e = .returned (.int .i64 c) ∧ RefAt w' m r first (first + L) U' G' ∧ Kp m w w' := by
  subst hL
  have hs := h.small
  by_cases hok : okAll first st 1 xs
  · obtain ⟨h1, h2⟩ := all_of_ok (by omega) hok
    refine ⟨0, setAll first 2 st xs, outAll U xs, G ++ xs, by rw [trn, if_pos hok], h.giveAll h1 h2, setAll_length .., fun hr hm hx hl => (give_r hr hm hx (by omega)).mono ?_⟩
    rintro e w' ⟨⟨hno, _, _⟩ | ⟨_, rfl, h3⟩, k⟩
    · exact absurd (h.giveOk.2 hok) hno
    · exact ⟨rfl, h3, k⟩
  · refine ⟨2, st, U, G, by rw [trn, if_neg hok], h, rfl, fun hr hm hx hl => (give_r hr hm hx (by omega)).mono ?_⟩
    rintro e w' ⟨⟨_, rfl, h3⟩ | ⟨hno, _, _⟩, k⟩
    · exact ⟨rfl, h3, k⟩
    · exact absurd (h.giveOk.1 hno) hok
theorem back_pair {first : Int} {st U G xs : List Int} {L : Nat} (h : Tie first st U G) (hL : st.length = L) (hL2 : L ≤ 60) : ∃ c st' U' G', trn first 1 0 xs st = (st', c) ∧ Tie first st' U' G' ∧ st'.length = L ∧
    ∀ {w : World} {m : Nat → Prop} {r : Nat} {a : Option Addr} {len cap : Nat}, RefAt w m r first (first + L) U G → (∀ j, w.heap.size ≤ j → m j) → SlE w .i64 a len cap xs (fun b => ¬ m b) → len ≤ 60 →
      Calls Try.prog 30 #[.pointer (some ⟨r, 0, none⟩), .slice a len cap] w fun e w' => e = .returned (.int .i64 c) ∧ RefAt w' m r first (first + L) U' G' ∧ Kp m w w' := by
  subst hL
  have hs := h.small
  by_cases hok : okAll first st 1 xs
  · obtain ⟨h1, h2⟩ := all_of_ok (by omega) hok
    refine ⟨0, setAll first 0 st xs, outAll U xs, G, by rw [trn, if_pos hok], h.backAll h1 h2, setAll_length .., fun hr hm hx hl => (back_r hr hm hx (by omega)).mono ?_⟩
    rintro e w' ⟨⟨hno, _, _⟩ | ⟨_, rfl, h3⟩, k⟩
    · exact absurd (h.giveOk.2 hok) hno
    · exact ⟨rfl, h3, k⟩
  · refine ⟨2, st, U, G, by rw [trn, if_neg hok], h, rfl, fun hr hm hx hl => (back_r hr hm hx (by omega)).mono ?_⟩
    rintro e w' ⟨⟨_, rfl, h3⟩ | ⟨hno, _, _⟩, k⟩
    · exact ⟨rfl, h3, k⟩
    · exact absurd (h.giveOk.1 hno) hok
theorem take_pair {first : Int} {st U G : List Int} {L : Nat} (h : Tie first st U G) (hL : st.length = L) (hL2 : L ≤ 60) : ∃ n c st' U', tk first st = (n, c, st') ∧ Tie first st' U' G ∧ st'.length = L ∧
    ∀ {w : World} {m : Nat → Prop} {r : Nat}, RefAt w m r first (first + L) U G → (∀ j, w.heap.size ≤ j → m j) →
      Calls Try.prog 26 #[.pointer (some ⟨r, 0, none⟩)] w fun e w' => e = .returned (.tuple #[.int .i64 n, .int .i64 c]) ∧ RefAt w' m r first (first + L) U' G ∧ Kp m w w' := by
  subst hL
  have hs := h.small
  rcases h.takeR with ⟨hno, e⟩ | ⟨n, hf, hb, e, ht⟩
  · refine ⟨0, 12, st, U, e, h, rfl, fun hr hm => (take_r hr hm (by omega) (by omega)).mono ?_⟩
    rintro e w' (⟨_, rfl, rfl⟩ | ⟨n, hf, _⟩)
    · exact ⟨rfl, hr, Kp.refl _ _⟩
    · exact absurd hf (hno n)
  · refine ⟨n, 0, _, putL n U, e, ht, by simp, fun hr hm => (take_r hr hm (by omega) (by omega)).mono ?_⟩
    rintro e w' (⟨hno, _, _⟩ | ⟨n', hf', hb', rfl, h3, k⟩)
    · exact absurd hf (hno n)
    · obtain rfl := least_one hf hf' hb hb'
      exact ⟨rfl, h3, k⟩
theorem give_s {p q : Nat} {first c : Int} {st st' : List Int} {a : Option Addr} {len cap : Nat} {xs : List Int} {w : World} (ht : trn first 1 2 xs st = (st', c)) (h : SpaceAt w p q first st) (hs : SlE w .i64 a len cap xs (fun b => b ≠ q))
    (hb : ∀ x ∈ xs, (Lit.int .i64 x).wf = true) :
    Calls Try.prog 18 #[.pointer (some ⟨p, 0, none⟩), .slice a len cap] w fun e w' => e = .returned (.int .i64 c) ∧ SpaceAt w' p q first st' ∧ Kp (fun j => j = q) w w' := by
  have h3 := give_u p q first st a len cap xs w h hs hb
  rw [ht] at h3
  exact h3
theorem back_s {p q : Nat} {first c : Int} {st st' : List Int} {a : Option Addr} {len cap : Nat} {xs : List Int} {w : World} (ht : trn first 1 0 xs st = (st', c)) (h : SpaceAt w p q first st) (hs : SlE w .i64 a len cap xs (fun b => b ≠ q))
    (hb : ∀ x ∈ xs, (Lit.int .i64 x).wf = true) :
    Calls Try.prog 22 #[.pointer (some ⟨p, 0, none⟩), .slice a len cap] w fun e w' => e = .returned (.int .i64 c) ∧ SpaceAt w' p q first st' ∧ Kp (fun j => j = q) w w' := by
  have h3 := back_u p q first st a len cap xs w h hs hb
  rw [ht] at h3
  exact h3
theorem use_s {p q : Nat} {first c : Int} {st st' : List Int} {a : Option Addr} {len cap : Nat} {xs : List Int} {w : World} (ht : trn first 0 1 xs st = (st', c)) (h : SpaceAt w p q first st) (hs : SlE w .i64 a len cap xs (fun b => b ≠ q))
    (hb : ∀ x ∈ xs, (Lit.int .i64 x).wf = true) :
    Calls Try.prog 23 #[.pointer (some ⟨p, 0, none⟩), .slice a len cap] w fun e w' => e = .returned (.int .i64 c) ∧ SpaceAt w' p q first st' ∧ Kp (fun j => j = q) w w' := by
  have h3 := use_u p q first st a len cap xs w h hs hb
  rw [ht] at h3
  exact h3
theorem Tie.isP {first : Int} {st U G : List Int} (h : Tie first st U G) (x : Int) : decide (isP first st x) = decide (x ∈ U) := by
  rw [decide_eq_decide, h.u, stAt_in (by omega)]
  exact Iff.rfl
end Go.Proofs.Ytogfkmejgjodaaa
