/- A law's two rings: the program's and the reference's. -/
import Derived.Test.YtfngacepjcdlnaaDoorMEb
import Derived.Test.YtfngacepjcdlnaaDoorMFb
set_option linter.unusedVariables false
namespace Go.Kx
open Go
section
variable {P : Program} {n : Nat} {env : Env} {w : World} {dst : Option Tmp} {ty : TypeId} {pos : String} {aft : Array Edge} {g : Option (Nat × Bool)}
/-- A string's octets copied. -/
theorem r_copy_str {T T2 E E2 : TypeId} [hT : TU P T (.slice E2)] [hs : TSz P E2 1] {x y : Operand} {b off dl dc : Nat} {cs : List Value} {l : List UInt8} (hx : ev n env x = .slice (some ⟨b, off, none⟩) dl dc) (hy : ev n env y = strV l)
    (hl : l.length = dl) (hb : Blk w b E (0, 0) cs) (ho : off + dl ≤ cs.length) :
    ∃ v w', Run P n env ⟨dst, .call ⟨.builtin .copy, #[x, y], #[T, T2]⟩, ty, pos, aft, g⟩ w (.ok (.value v) w') ∧ v = .int .i64 (dl : Nat) ∧ Eff w w' b (.cells (lay cs off (ints .u8 (bs8 l))).toArray E (0, 0)) := by
  subst hl
  obtain ⟨w', hr, hw⟩ := run_storeCells_eff (P := P) (b := b) (off := off) (E := E) (ints .u8 (bs8 l)) 0 cs w hb (by simp; omega) (fun v hv => (List.all_eq_true.1 (ints_one _ _)) v hv)
  have hby : byteCells ⟨l.toArray⟩ = ints .u8 (bs8 l) := by
    simp [byteCells, ints, bs8, ub]
  have h := firstCells_string (P := P) ⟨l.toArray⟩ w
  rw [hby] at h
  have hsz : (⟨l.toArray⟩ : ByteArray).size = l.length := rfl
  rw [hsz] at h
  refine ⟨_, w', ?_, rfl, hw⟩
  unfold Run
  simp [execOp, hx, hy, strV, resolve, invoke, builtin, run_underlying hT.h, Builtin.copy_, Builtin.lenOf, run_sizeOf hs.h, goInt, hsz, h, hr]
theorem lay_all {cs vs : List Value} (h : vs.length = cs.length) : lay cs 0 vs = vs := by
  unfold lay
  simp [h]
end
end Go.Kx
namespace Go.Proofs.YtfngacepjcdlnaaDoor
open Go Go.Kx Go.Kr
theorem good_if {c : Prop} [Decidable c] {A B : Ring} (h1 : c → Kr.Good A) (h2 : Kr.Good B) : Kr.Good (if c then A else B) := by
  split
  · exact h1 ‹_›
  · exact h2
/-- A key of a law's: forgotten, or so many of one octet. -/
def KeyP (e : Ent) : Prop := e.key = [] ∨ e.id = idK e.key ∧ ∃ n u, 16 ≤ n ∧ n ≤ 64 ∧ e.key = List.replicate n u
def Few (L : Ring) (i : Nat) : Prop := ∀ e ∈ L, e.holds ≤ i ∧ KeyP e
theorem Few.mono {L : Ring} {i j : Nat} (h : Few L i) (hij : i ≤ j) : Few L j := fun e he => ⟨Nat.le_trans (h e he).1 hij, (h e he).2⟩
theorem few_if {c : Prop} [Decidable c] {A B : Ring} {i : Nat} (h1 : c → Few A i) (h2 : Few B i) : Few (if c then A else B) i := by
  split
  · exact h1 ‹_›
  · exact h2
theorem few_set {L : Ring} {i k : Nat} {e : Ent} (h : Few L i) (he : e.holds ≤ i ∧ KeyP e) : Few (L.set k e) i := fun x hx => by
  rcases List.mem_or_eq_of_mem_set hx with hx | rfl
  · exact h x hx
  · exact he
theorem few_drop {L : Ring} {i k : Nat} {e : Ent} (h : Few L i) (he : e.holds ≤ i ∧ KeyP e) : Few (Kr.drop k e L) i := by
  unfold Kr.drop
  split
  · exact fun x hx => h x ((List.eraseIdx_sublist _ _).subset hx)
  · exact few_set h he
theorem few_ent {L : Ring} {i : Nat} {id : List UInt8} (h : Few L i) (hh : hit id L = true) : (ent id L).holds ≤ i ∧ KeyP (ent id L) := h _ (ent_mem hh)
theorem few_add {L : Ring} {i n : Nat} {u : UInt8} (h : Few L i) (hok : addOk (idK (List.replicate n u)) (List.replicate n u) L = 0) : Few (Kr.add (idK (List.replicate n u)) (List.replicate n u) L) i := by
  have hn : 16 ≤ n ∧ n ≤ 64 := by
    unfold addOk at hok
    rw [List.length_replicate] at hok
    split at hok
    · cases hok
    · omega
  unfold Kr.add
  split
  · rename_i hh
    exact few_set h ⟨(few_ent h hh).1, .inr ⟨(ent_eq hh).2.2, n, u, hn.1, hn.2, rfl⟩⟩
  · intro x hx
    rcases List.mem_append.1 hx with h1 | h1
    · exact h x (List.mem_of_mem_take h1)
    · rcases List.mem_cons.1 h1 with rfl | h1
      · exact ⟨Nat.zero_le _, .inr ⟨rfl, n, u, hn.1, hn.2, rfl⟩⟩
      · exact h x (List.mem_of_mem_drop h1)
theorem few_remove {L : Ring} {i : Nat} {id : List UInt8} (h : Few L i) (hh : hit id L = true) : Few (Kr.remove id L) i := few_drop h ⟨(few_ent h hh).1, .inl rfl⟩
theorem few_release {L : Ring} {i : Nat} {id : List UInt8} (h : Few L i) (hh : hit id L = true) : Few (Kr.release id L) i := few_drop h ⟨Nat.le_trans (Nat.sub_le _ _) (few_ent h hh).1, (few_ent h hh).2⟩
theorem few_hold {L : Ring} {i : Nat} {id : List UInt8} (h : Few L i) (hh : hit id L = true) : Few (Kr.hold id L) (i + 1) := few_set (h.mono (Nat.le_succ i)) ⟨Nat.succ_le_succ (few_ent h hh).1, (few_ent h hh).2⟩
/-- The key behind an identifier is the one that it is made of. -/
theorem few_key {L : Ring} {i : Nat} {v : UInt8} (h : Few L i) (hst : stat (idK (List.replicate 32 v)) L = 1) : (ent (idK (List.replicate 32 v)) L).key = List.replicate 32 v := by
  obtain ⟨hh, hk⟩ := stat_one.1 hst
  obtain ⟨_, hp | ⟨hid, n, u, h1, h2, he⟩⟩ := few_ent h hh
  · exact absurd hp hk
  · have e := (ent_eq hh).2.2
    rw [hid, he] at e
    rw [he]
    exact ids_apart h1 h2 e
/-- Both rings of a law. -/
structure Duo (W w : World) (r bo q : Nat) (xs : List En) (L : Ring) (D D2 : Nat → Prop) : Prop where
  P : Pack W w r bo xs D
  Q : RefAt w q L D2
  new2 : ∀ j, D2 j → W.heap.size ≤ j
  dis : ∀ j, D j → ¬ D2 j
  nb : ¬ D2 bo
  one : 1 < W.heap.size
theorem Duo.kpn {W w w' : World} {r bo q : Nat} {xs : List En} {L : Ring} {D D2 : Nat → Prop} (h : Duo W w r bo q xs L D D2) (k : Kp No w w') : Duo W w' r bo q xs L D D2 := ⟨h.P.kpn k, h.Q.kpn k, h.new2, h.dis, h.nb, h.one⟩
theorem Duo.prog {W w w' : World} {r bo q : Nat} {xs : List En} {L L' : Ring} {D D2 : Nat → Prop} (h : Duo W w r bo q xs L D D2) (t : RingTo w w' r bo D L') :
    ∃ xs' D', Duo W w' r bo q xs' L D' D2 ∧ ents xs' = L' ∧ (∀ b, ¬ D b → b < w.heap.size → ¬ D' b) ∧ Kp D w w' := by
  obtain ⟨xs', D', hR, hL, hD, k⟩ := t
  refine ⟨xs', D', ⟨⟨hR, newD hD h.P.new h.P.K.size, h.P.K.trans' k fun j hj => .inr (h.P.new j hj)⟩, h.Q.kp k fun j hj hd => h.dis j hd hj, h.new2, fun j hj hd => ?_, h.nb, h.one⟩, hL, fun b hb hl => notD hD hb hl, k⟩
  rcases hD j hj with h1 | h1
  · exact h.dis j h1 hd
  · have := h.Q.dlt j hd; omega
theorem Duo.ref {W w w' : World} {r bo q : Nat} {xs : List En} {L L' : Ring} {D D2 : Nat → Prop} (h : Duo W w r bo q xs L D D2) (t : RefTo w w' q D2 L') :
    ∃ D2', Duo W w' r bo q xs L' D D2' ∧ (∀ b, ¬ D2 b → b < w.heap.size → ¬ D2' b) ∧ Kp D2 w w' := by
  obtain ⟨D', hR, hD, k⟩ := t
  have hno : ∀ b, ¬ D2 b → b < w.heap.size → ¬ D' b := fun b hb hl => notD hD hb hl
  refine ⟨D', ⟨⟨h.P.R.kp k fun j hj => ⟨fun hd => h.dis j hd hj, fun e => h.nb (e ▸ hj), fun e => ?_⟩, h.P.new, h.P.K.trans' k fun j hj => .inr (h.new2 j hj)⟩, hR, newD hD h.new2 h.P.K.size, fun j hj => hno j (h.dis j hj) (h.P.R.dlt j hj), hno bo h.nb h.P.R.ob.lt, h.one⟩, hno, k⟩
  have := h.new2 j hj
  have := h.one
  omega
theorem Duo.refH {W w w' : World} {r bo q : Nat} {xs : List En} {L L' : Ring} {D D2 : Nat → Prop} (h : Duo W w r bo q xs L D D2) (R : RefAt w' q L' D2) (k : Kp D2 w w') : Duo W w' r bo q xs L' D D2 := by
  refine ⟨⟨h.P.R.kp k fun j hj => ⟨fun hd => h.dis j hd hj, fun e => h.nb (e ▸ hj), fun e => ?_⟩, h.P.new, h.P.K.trans' k fun j hj => .inr (h.new2 j hj)⟩, R, h.new2, h.dis, h.nb, h.one⟩
  have := h.new2 j hj
  have := h.one
  omega
/-- A law's own block stored into. -/
theorem Duo.own {W w w' : World} {r bo q b : Nat} {xs : List En} {L : Ring} {D D2 : Nat → Prop} {E : TypeId} {fz : Nat × Nat} {cs : List Value} (h : Duo W w r bo q xs L D D2) (k : Kp (fun j => j = b) w w') (hB : Blk w b E fz cs) (hb : ¬ D b) (hb2 : ¬ D2 b) (hW : W.heap.size ≤ b) (h1 : E ≠ 129) (h2 : E ≠ 243) : Duo W w' r bo q xs L D D2 :=
  ⟨h.P.own k hB hb hW h1 h2, h.Q.kp k (by rintro j hj rfl; exact hb2 hj), h.new2, h.dis, h.nb, h.one⟩
theorem Duo.not {W w : World} {r bo q b : Nat} {xs : List En} {L : Ring} {D D2 : Nat → Prop} (h : Duo W w r bo q xs L D D2) (hb : w.heap.size ≤ b) : ¬ D b ∧ ¬ D2 b := ⟨h.P.not hb, fun hd => by have := h.Q.dlt b hd; omega⟩
/-- Both hold the same, by what has been done so often. -/
structure Twin (W w : World) (r bo q : Nat) (xs : List En) (D D2 : Nat → Prop) (i : Nat) : Prop where
  d : Duo W w r bo q xs (ents xs) D D2
  good : Kr.Good (ents xs)
  few : Few (ents xs) i
theorem Twin.kpn {W w w' : World} {r bo q i : Nat} {xs : List En} {D D2 : Nat → Prop} (h : Twin W w r bo q xs D D2 i) (k : Kp No w w') : Twin W w' r bo q xs D D2 i := ⟨h.d.kpn k, h.good, h.few⟩
end Go.Proofs.YtfngacepjcdlnaaDoor
