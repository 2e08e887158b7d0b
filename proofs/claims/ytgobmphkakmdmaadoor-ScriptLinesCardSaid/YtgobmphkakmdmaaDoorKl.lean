/- Slices of whole numbers that may be empty at any address. Own work; nothing of a program is named here. -/
import Derived.Test.YtgobmphkakmdmaaDoorKh
namespace Go.Kx
open Go
/-- Its numbers can be read; D holds of its block where it has room at all. -/
structure SlE (w : World) (k : IntKind) (a : Option Addr) (len cap : Nat) (xs : List Int) (D : Nat → Prop) : Prop where
  len_eq : xs.length = len
  le : len ≤ cap
  max : cap ≤ 9223372036854775807
  mem : cap = 0 ∨ ∃ b off, a = some ⟨b, off, none⟩ ∧ b < w.heap.size ∧ D b ∧ Seg w b off (ints k xs)
theorem SlE.kp {S D : Nat → Prop} {w w' : World} {k : IntKind} {a : Option Addr} {len cap : Nat} {xs : List Int} (h : SlE w k a len cap xs D) (hk : Kp S w w') (hb : ∀ b, D b → ¬ S b) : SlE w' k a len cap xs D := by
  refine ⟨h.len_eq, h.le, h.max, h.mem.imp id ?_⟩
  rintro ⟨b, off, rfl, hl, hd, hs⟩
  exact ⟨b, off, rfl, Nat.lt_of_lt_of_le hl hk.size, hd, hs.kp hk (hb b hd) hl⟩
theorem SlE.kpn {D : Nat → Prop} {w w' : World} {k : IntKind} {a : Option Addr} {len cap : Nat} {xs : List Int} (h : SlE w k a len cap xs D) (hk : Kp No w w') : SlE w' k a len cap xs D := h.kp hk fun _ _ => id
theorem SlE.mono {D D' : Nat → Prop} {w : World} {k : IntKind} {a : Option Addr} {len cap : Nat} {xs : List Int} (h : SlE w k a len cap xs D) (hd : ∀ b, b < w.heap.size → D b → D' b) : SlE w k a len cap xs D' := by
  refine ⟨h.len_eq, h.le, h.max, h.mem.imp id ?_⟩
  rintro ⟨b, off, rfl, hl, hD, hs⟩
  exact ⟨b, off, rfl, hl, hd b hl hD, hs⟩
theorem Sl.e {D : Nat → Prop} {w : World} {k : IntKind} {a : Option Addr} {len cap : Nat} {xs : List Int} (h : Sl w k a len cap xs) (hd : ∀ b, blkOf a b → D b) : SlE w k a len cap xs D := by
  refine ⟨h.len_eq, h.le, h.max, h.mem.imp (fun h => h.2) ?_⟩
  rintro ⟨b, off, rfl, hl, hs⟩
  exact ⟨b, off, rfl, hl, hd b rfl, hs⟩
/-- With a block it is one of the other kind. -/
theorem SlE.sl {D : Nat → Prop} {w : World} {k : IntKind} {b off len cap : Nat} {xs : List Int} (h : SlE w k (some ⟨b, off, none⟩) len cap xs D) (h0 : 0 < len) : Sl w k (some ⟨b, off, none⟩) len cap xs := by
  refine ⟨h.len_eq, h.le, h.max, .inr ?_⟩
  rcases h.mem with h1 | ⟨b', off', e, hl, _, hs⟩
  · have := h.le; omega
  · exact ⟨b', off', e, hl, hs⟩
end Go.Kx
