/- The reference's ring in memory: a slice of (identifier, key, holds). | The reference's ring: Status, Hold. | The reference's ring: clean. | The reference's ring: Release, Remove, ID. -/
import Derived.Test.YtfngacepjcdlnaaDoorMGd
import Derived.Test.YtfngacepjcdlnaaDoorMQb
set_option linter.unusedVariables false
namespace Go.Proofs.YtfngacepjcdlnaaDoor
open Go Go.Kx Go.Kr
def entC (e : Ent) : List Value := [strV e.id, strV e.key, .int .i64 (e.holds : Int)]
def refC (L : Ring) : List Value := L.flatMap entC
theorem refC_nil : refC [] = [] := rfl
theorem refC_cons (e : Ent) (L : Ring) : refC (e :: L) = entC e ++ refC L := rfl
theorem refC_app (L M : Ring) : refC (L ++ M) = refC L ++ refC M := by simp [refC]
theorem refC_length : ∀ L : Ring, (refC L).length = L.length * 3
  | [] => rfl
  | e :: L => by rw [refC_cons, List.length_append, refC_length L]; simp [entC]; omega
theorem refC_get : ∀ {L : Ring} {i o : Nat} (sp : List Value) (h : i < L.length) (_ : o < 3), (refC L ++ sp)[i * 3 + o]? = (entC (L[i]))[o]?
  | [], i, o, sp, h, _ => by simp at h
  | e :: L, 0, o, sp, h, ho => by
    rw [refC_cons, List.append_assoc, Nat.zero_mul, Nat.zero_add, List.getElem?_append_left (by simp [entC]; omega)]
    rfl
  | e :: L, i + 1, o, sp, h, ho => by
    rw [refC_cons, List.append_assoc, List.getElem?_append_right (by simp [entC]; omega), show (i + 1) * 3 + o - (entC e).length = i * 3 + o by simp [entC]; omega]
    exact refC_get sp (by simpa using h) ho
structure RefAt (w : World) (r : Nat) (L : Ring) (D : Nat → Prop) : Prop where
  es : ∃ a cap, Blk w r 83 (0, 0) [.slice a L.length cap] ∧ Own w 166 3 a L.length cap (refC L) ∧ ∀ j, blkOf a j → D j
  dr : D r
  dlt : ∀ j, D j → j < w.heap.size
theorem RefAt.kp {S : Nat → Prop} {w w' : World} {r : Nat} {L : Ring} {D : Nat → Prop} (h : RefAt w r L D) (hk : Kp S w w') (hS : ∀ j, D j → ¬ S j) : RefAt w' r L D := by
  obtain ⟨a, cap, h1, h2, h3⟩ := h.es
  exact ⟨⟨a, cap, h1.kp hk (hS _ h.dr), h2.kp hk fun j hj => hS j (h3 j hj), h3⟩, h.dr, fun j hj => Nat.lt_of_lt_of_le (h.dlt j hj) hk.size⟩
theorem RefAt.kpn {w w' : World} {r : Nat} {L : Ring} {D : Nat → Prop} (h : RefAt w r L D) (hk : Kp No w w') : RefAt w' r L D := h.kp hk fun _ _ h => h
/-- The slice of a ring that is not empty. -/
theorem own_ref {w : World} {a : Option Addr} {cap : Nat} {L : Ring} (h : Own w 166 3 a L.length cap (refC L)) (h0 : 0 < L.length) : ∃ b sp, a = some ⟨b, 0, none⟩ ∧ Blk w b 166 (0, 0) (refC L ++ sp) := by
  obtain ⟨_, h2, _, h4⟩ := h
  rcases h4 with ⟨_, h⟩ | ⟨b, sp, e, hB, hl⟩
  · omega
  · exact ⟨b, sp, e, hB⟩
section
variable {P : Program} {n : Nat} {env : Env} {w : World} {dst : Option Tmp} {ty : TypeId} {pos : String} {aft : Array Edge} {g : Option (Nat × Bool)}
theorem x_indexAddr3 {T E : TypeId} [hT : TU P T (.slice E)] [hs : TSz P E 3] {x ix : Operand} {b len cap : Nat} {k : IntKind} {j : Nat}
    (hx : ev n env x = .slice (some ⟨b, 0, none⟩) len cap) (hi : ev n env ix = .int k (j : Int)) (h1 : j < len) :
    Run P n env ⟨dst, .indexAddr T x ix, ty, pos, aft, g⟩ w (.ok (.value (.pointer (some ⟨b, j * 3, none⟩))) w) := by
  have h := x_indexAddr (P := P) (w := w) (dst := dst) (ty := ty) (pos := pos) (aft := aft) (g := g) (T := T) hx hi (by omega) (by omega)
  rwa [Int.toNat_natCast, Nat.zero_add] at h
end
/-- Where an entry is, or -1. -/
def atR (id : List UInt8) (L : Ring) : Int := if hit id L = true then (pos id L : Int) else -1
set_option maxRecDepth 100000 in
set_option maxHeartbeats 4000000 in
theorem at_calls (L : Ring) (id : List UInt8) (r : Nat) (w : World) {D : Nat → Prop} (hR : RefAt w r L D) (hg : Kr.Good L) :
    Calls Tryd.prog 87 #[.pointer (some ⟨r, 0, none⟩), strV id] w fun e w' => e = .returned (.int .i64 (atR id L)) ∧ w = w' := by
  refine calls_at (n := 26) Tryd.func87 rfl rfl (by simp) ?_
  obtain ⟨a, cap, hB, hO, _⟩ := hR.es
  have hs := hg.sorted
  have hfew := hg.few
  (refine At_seq ?_; refine At_region ?_; refine s_as ?_; refine AtR_nil ?_; refine At_seq ?_; refine At_seq ?_; refine At_region ?_; refine s_as ?_; refine AtR_nil ?_; refine At_block ?_)
  refine At_while (fun s : Nat => [(0, .pointer (some ⟨r, 0, none⟩)), (1, strV id), (5, .int .i64 (s : Int))])
    (fun s w' => s ≤ L.length ∧ w = w' ∧ ∀ j (h : j < L.length), j < s → (L[j]).id ≠ id) (fun s => L.length - s) 0 ⟨rfl, rfl, rfl, trivial⟩
    ⟨by omega, rfl, fun j _ h => by omega⟩ ?_
  rintro i w' junk ⟨hi, rfl, hne⟩ again
  (refine At_seq ?_; refine At_seq ?_; refine At_region ?_; refine s_mv ?_; refine s_mv ?_; refine s_nc ?_; refine s_fa ?_; refine s_ld ?_; refine s_ln ?_)
  by_cases hlt : i < L.length
  · obtain ⟨b, sp, rfl, hE⟩ := own_ref hO (by omega)
    (refine s_lss ?_; refine AtR_nil ?_; refine At_cond_t rfl ?_; refine At_skip ?_; refine At_seq ?_; refine At_block ?_; refine At_seq ?_; refine At_region ?_; refine s_mv ?_; refine s_nc ?_; refine s_fa ?_; refine s_ld ?_; refine s_mv ?_)
    refine s_val (x_indexAddr3 rfl rfl hlt) ?_
    refine s_val (x_fieldAddrN rfl rfl) ?_
    refine s_val (x_load1 rfl hE (refC_get (o := 0) sp hlt (by omega))) ?_
    (refine s_mv ?_)
    by_cases he : (L[i]).id = id
    · have hp := pos_eq hs hlt he
      have hh := hit_of hs hlt he
      refine s_bool (x_eql_str rfl rfl) (decide_eq_true he) ?_
      (refine AtR_nil ?_; refine At_cond_t rfl ?_; refine At_seq ?_; refine At_region ?_; refine s_mv ?_; refine s_as ?_; refine AtR_nil ?_)
      refine At_ret1 Tryd.func87 rfl (by conv => lhs; whnf) ?_
      exact ⟨by unfold atR; rw [if_pos hh, hp], rfl⟩
    · refine s_bool (x_eql_str rfl rfl) (decide_eq_false he) ?_
      (refine AtR_nil ?_; refine At_cond_f rfl ?_; refine At_skip ?_; refine At_inBlock ?_; refine At_region ?_; refine s_mv ?_; refine s_ad ?_; refine s_as ?_; refine AtR_nil ?_)
      exact again (i + 1) _ _ ⟨rfl, rfl, rfl, trivial⟩ ⟨hlt, rfl, fun j h hj => by
        by_cases e : j = i
        · subst e; exact he
        · exact hne j h (by omega)⟩ (by omega)
  · have hh : hit id L = false := hit_false fun j hj => hne j hj (by omega)
    (refine s_lss ?_; refine AtR_nil ?_; refine At_cond_f rfl ?_; refine At_exit rfl ?_; refine At_seq ?_; refine At_region ?_; refine s_as ?_; refine AtR_nil ?_)
    refine At_ret1 Tryd.func87 rfl (by conv => lhs; whnf) ?_
    exact ⟨by unfold atR; rw [if_neg (by rw [hh]; decide)], rfl⟩
end Go.Proofs.YtfngacepjcdlnaaDoor

namespace Go.Proofs.YtfngacepjcdlnaaDoor
open Go Go.Kx Go.Kr
theorem atR_hit {id : List UInt8} {L : Ring} (h : hit id L = true) : atR id L = (pos id L : Int) := if_pos h
theorem atR_no {id : List UInt8} {L : Ring} (h : hit id L = false) : atR id L = -1 := if_neg (by rw [h]; decide)
set_option maxRecDepth 100000 in
set_option maxHeartbeats 4000000 in
theorem statusR_calls (L : Ring) (id : List UInt8) (r : Nat) (w : World) {D : Nat → Prop} (hR : RefAt w r L D) (hg : Kr.Good L) :
    Calls Tryd.prog 45 #[.pointer (some ⟨r, 0, none⟩), strV id] w fun e w' => e = .returned (.int .i64 ((stat id L : Nat) : Int)) ∧ w = w' := by
  refine calls_at (n := 20) Tryd.func45 rfl rfl (by simp) ?_
  obtain ⟨a, cap, hB, hO, _⟩ := hR.es
  (refine At_seq ?_; refine At_region ?_; refine s_as ?_; refine AtR_nil ?_; refine At_seq ?_; refine At_region ?_; refine s_mv ?_; refine s_mv ?_)
  refine s_call x_call (at_calls L id r _ hR hg) ?_
  rintro _ w' ⟨rfl, rfl⟩
  refine ⟨_, rfl, ?_⟩
  rcases Bool.eq_false_or_eq_true (hit id L) with hh | hh
  · rw [atR_hit hh]
    obtain ⟨hl, e1, e2⟩ := ent_eq hh
    obtain ⟨b, sp, rfl, hE⟩ := own_ref hO (by omega)
    (refine s_as ?_; refine AtR_nil ?_; refine At_seq ?_; refine At_seq ?_; refine At_region ?_; refine s_mv ?_; refine s_lss ?_; refine AtR_nil ?_; refine At_cond_f rfl ?_; refine At_skip ?_; refine At_seq ?_; refine At_seq ?_; refine At_region ?_; refine s_mv ?_; refine s_nc ?_; refine s_fa ?_; refine s_ld ?_; refine s_mv ?_)
    refine s_val (x_indexAddr3 rfl rfl hl) ?_
    refine s_val (x_fieldAddrN rfl rfl) ?_
    refine s_val (x_load1 rfl hE (refC_get (o := 1) sp hl (by omega))) ?_
    by_cases hk : (L[pos id L]).key = []
    · refine s_bool (x_eql_str (m := []) rfl rfl) (decide_eq_true hk) ?_
      (refine AtR_nil ?_; refine At_cond_t rfl ?_; refine At_seq ?_; refine At_region ?_; refine s_as ?_; refine AtR_nil ?_)
      refine At_ret1 Tryd.func45 rfl (by conv => lhs; whnf) ?_
      exact ⟨by unfold stat; rw [if_pos hh, e1, if_pos hk]; rfl, rfl⟩
    · refine s_bool (x_eql_str (m := []) rfl rfl) (decide_eq_false hk) ?_
      (refine AtR_nil ?_; refine At_cond_f rfl ?_; refine At_skip ?_; refine At_seq ?_; refine At_region ?_; refine s_as ?_; refine AtR_nil ?_)
      refine At_ret1 Tryd.func45 rfl (by conv => lhs; whnf) ?_
      exact ⟨by unfold stat; rw [if_pos hh, e1, if_neg hk]; rfl, rfl⟩
  · rw [atR_no hh]
    (refine s_as ?_; refine AtR_nil ?_; refine At_seq ?_; refine At_seq ?_; refine At_region ?_; refine s_mv ?_; refine s_lss ?_; refine AtR_nil ?_; refine At_cond_t rfl ?_; refine At_seq ?_; refine At_region ?_; refine s_as ?_; refine AtR_nil ?_)
    refine At_ret1 Tryd.func45 rfl (by conv => lhs; whnf) ?_
    exact ⟨by unfold stat; rw [if_neg (by rw [hh]; decide)]; rfl, rfl⟩
theorem entC_set : ∀ {L : Ring} {i o : Nat} {v : Value} {e : Ent} (h : i < L.length) (_ : o < 3), (entC (L[i])).set o v = entC e → (refC L).set (i * 3 + o) v = refC (L.set i e)
  | [], i, o, v, e, h, _, _ => by simp at h
  | x :: L, 0, o, v, e, h, ho, he => by
    rw [refC_cons, Nat.zero_mul, Nat.zero_add, List.set_append_left _ _ (by simp [entC]; omega)]
    rw [show (x :: L).set 0 e = e :: L from rfl, refC_cons, ← he]
    rfl
  | x :: L, i + 1, o, v, e, h, ho, he => by
    rw [refC_cons, List.set_append_right _ _ (by simp [entC]; omega), show (i + 1) * 3 + o - (entC x).length = i * 3 + o by simp [entC]; omega, show (x :: L).set (i + 1) e = x :: L.set i e from rfl, refC_cons]
    rw [entC_set (L := L) (i := i) (by simpa using h) ho he]
/-- A cell of an entry stored. -/
theorem RefAt.store {w w' : World} {r b : Nat} {L : Ring} {D : Nat → Prop} {cap i o : Nat} {v : Value} {e : Ent} {sp : List Value} (h : RefAt w r L D) (hB : Blk w r 83 (0, 0) [.slice (some ⟨b, 0, none⟩) L.length cap]) (hO : Own w 166 3 (some ⟨b, 0, none⟩) L.length cap (refC L)) (hD : D b)
    (hi : i < L.length) (ho : o < 3) (he : (entC (L[i])).set o v = entC e) (hE : Blk w b 166 (0, 0) (refC L ++ sp)) (hl : (refC L ++ sp).length = cap * 3) (ef : Eff w w' b (.cells ((refC L ++ sp).set (i * 3 + o) v).toArray 166 (0, 0))) :
    RefAt w' r (L.set i e) D ∧ Kp D w w' := by
  have hlen := refC_length L
  have hset : (refC L ++ sp).set (i * 3 + o) v = refC (L.set i e) ++ sp := by
    rw [List.set_append_left _ _ (by omega), entC_set hi ho he]
  have k : Kp (fun j => j = b) w w' := ef.kp (.inl rfl)
  have hne : r ≠ b := fun h => by subst h; exact hE.ne hB (by decide) rfl
  have hB' := hB.kp k hne
  have hE' := ef.blk
  rw [hset] at hE'
  obtain ⟨_, h2, h3, _⟩ := hO
  exact ⟨⟨⟨some ⟨b, 0, none⟩, cap, by rw [List.length_set]; exact hB', ⟨by rw [refC_length, List.length_set], by rw [List.length_set]; exact h2, h3, .inr ⟨b, sp, rfl, hE', by rw [← hset, List.length_set]; exact hl⟩⟩, fun j hj => by simp [blkOf] at hj; subst hj; exact hD⟩, h.dr, fun j hj => Nat.lt_of_lt_of_le (h.dlt j hj) k.size⟩, k.mono (by rintro j rfl; exact hD)⟩
theorem own_ref' {w : World} {a : Option Addr} {cap : Nat} {L : Ring} (h : Own w 166 3 a L.length cap (refC L)) (h0 : 0 < L.length) : ∃ b sp, a = some ⟨b, 0, none⟩ ∧ Blk w b 166 (0, 0) (refC L ++ sp) ∧ (refC L ++ sp).length = cap * 3 := by
  obtain ⟨_, h2, _, h4⟩ := h
  rcases h4 with ⟨_, h⟩ | ⟨b, sp, e, hB, hl⟩
  · omega
  · exact ⟨b, sp, e, hB, hl⟩
set_option maxRecDepth 100000 in
set_option maxHeartbeats 4000000 in
theorem holdR_calls (L : Ring) (id : List UInt8) (r : Nat) (w : World) {D : Nat → Prop} (hR : RefAt w r L D) (hg : Kr.Good L) (hm : Room L) :
    Calls Tryd.prog 43 #[.pointer (some ⟨r, 0, none⟩), strV id] w fun e w' => e = .returned (.int .i64 (if stat id L = 1 then 0 else 16)) ∧ RefAt w' r (if stat id L = 1 then hold id L else L) D ∧ Kp D w w' := by
  refine calls_at (n := 22) Tryd.func43 rfl rfl (by simp) ?_
  obtain ⟨a, cap, hB, hO, hD⟩ := hR.es
  (refine At_seq ?_; refine At_region ?_; refine s_as ?_; refine AtR_nil ?_; refine At_seq ?_; refine At_seq ?_; refine At_region ?_; refine s_mv ?_; refine s_mv ?_)
  refine s_call x_call (statusR_calls L id r _ hR hg) ?_
  rintro _ w' ⟨rfl, rfl⟩
  refine ⟨_, rfl, ?_⟩
  by_cases h1 : stat id L = 1
  · obtain ⟨hh, _⟩ := stat_one.1 h1
    obtain ⟨hl, e1, e2⟩ := ent_eq hh
    obtain ⟨b, sp, rfl, hE, hEl⟩ := own_ref' hO (by omega)
    rw [if_pos h1, if_pos h1, h1]
    have hho : (L[pos id L]).holds < 1000000 := hm _ (List.getElem_mem hl)
    (refine s_neq ?_; refine AtR_nil ?_; refine At_cond_f rfl ?_; refine At_skip ?_; refine At_seq ?_)
    have kd := Kp.drew (S := No) (w := w)
    let S : World → Prop := fun w' => Blk w' r 83 (0, 0) [.slice (some ⟨b, 0, none⟩) L.length cap] ∧ Blk w' b 166 (0, 0) (refC L ++ sp) ∧ RefAt w' r L D ∧ Own w' 166 3 (some ⟨b, 0, none⟩) L.length cap (refC L)
    refine AtL_draw S 13 rfl ?_
    have hS : S w.drew := ⟨hB.kp kd fun h => h, hE.kp kd fun h => h, hR.kpn kd, hO.kp kd fun _ _ h => h⟩
    (apply AtL_take 0 rfl (by decide +kernel) (by exact rfl); (focus (intro wx hx; skip; exact x_move (by conv => lhs; whnf))); (focus (exact hS)))
    (apply AtL_take 1 rfl (by decide +kernel) (by exact rfl); (focus (intro wx hx; skip; exact x_nilCheck rfl)); (focus (exact hS)))
    (apply AtL_take 4 rfl (by decide +kernel) (by exact rfl); (focus (intro wx hx; skip; exact x_move (by conv => lhs; whnf))); (focus (exact hS)))
    (apply AtL_take 5 rfl (by decide +kernel) (by exact rfl); (focus (intro wx hx; skip; exact x_move (by conv => lhs; whnf))); (focus (exact hS)))
    -- ready now: 2 fieldAddr 83 t10 0, 6 call f87(t13, t14)
    refine AtL_take 2 rfl (by decide +kernel) rfl (fun wx hx => x_fieldAddrN rfl rfl) hS ?_
    refine AtL_take 3 rfl (by decide +kernel) rfl (fun wx hx => x_load1 rfl hx.1 rfl) hS ?_
    -- ready now: 6 call f87(t13, t14)
    refine AtL_call 6 rfl (by decide +kernel) (by exact rfl) x_call  (at_calls L id r _ hS.2.2.1 hg) ?_
    rintro _ w2 ⟨rfl, rfl⟩
    refine ⟨_, rfl, .inr hS, ?_⟩
    rw [atR_hit hh]
    refine AtL_take 7 rfl (by decide +kernel) rfl (fun wx hx => x_indexAddr3 rfl rfl hl) hS ?_
    refine AtL_take 8 rfl (by decide +kernel) rfl (fun wx hx => x_fieldAddrN rfl rfl) hS ?_
    refine AtL_take 9 rfl (by decide +kernel) rfl (fun wx hx => x_load1 rfl hx.2.1 (refC_get (o := 2) sp hl (by omega))) hS ?_
    refine AtL_take 10 rfl (by decide +kernel) rfl (fun wx hx => x_add64 rfl rfl (by omega) (by omega)) hS ?_
    refine AtL_take 11 rfl (by decide +kernel) rfl (fun wx hx => x_indexAddr3 rfl rfl hl) hS ?_
    refine AtL_take 12 rfl (by decide +kernel) rfl (fun wx hx => x_fieldAddrN rfl rfl) hS ?_
    refine L_skip 13 rfl (by decide +kernel) rfl (r_store1 (v := .int .i64 (((L[pos id L]).holds : Int) + 1)) rfl rfl hS.2.1 (by rw [List.length_append, refC_length]; omega) rfl rfl) ?_
    intro w3 e3
    refine ⟨.inl rfl, AtL_done (by decide +kernel) ?_⟩
    obtain ⟨R3, k3⟩ := hS.2.2.1.store (e := { L[pos id L] with holds := (L[pos id L]).holds + 1 }) hS.1 hS.2.2.2 (hD _ rfl) hl (by omega) rfl hS.2.1 hEl e3
    (refine At_seq ?_; refine At_region ?_; refine s_as ?_; refine AtR_nil ?_)
    refine At_ret1 Tryd.func43 rfl (by conv => lhs; whnf) ?_
    refine ⟨rfl, ?_, (kd.mono fun _ h => h.elim).trans k3⟩
    unfold hold
    rw [e1]
    exact R3
  · (refine s_neq ?_; refine AtR_nil ?_; refine At_cond_t rfl ?_; refine At_seq ?_; refine At_region ?_; refine s_as ?_; refine AtR_nil ?_)
    refine At_ret1 Tryd.func43 rfl (by conv => lhs; whnf) ?_
    rw [if_neg h1, if_neg h1]
    exact ⟨rfl, hR, Kp.refl _ _⟩
end Go.Proofs.YtfngacepjcdlnaaDoor

namespace Go.Proofs.YtfngacepjcdlnaaDoor
open Go Go.Kx Go.Kr
theorem kept_snoc {L : Ring} {i : Nat} (h : i < L.length) : (L.take (i + 1)).filter keptB = (L.take i).filter keptB ++ (if keptB (L[i]) = true then [L[i]] else []) := by
  rw [List.take_add_one, List.getElem?_eq_getElem h, List.filter_append]
  congr 1
  cases hk : keptB (L[i]) <;> simp [hk]
set_option maxRecDepth 100000 in
set_option maxHeartbeats 4000000 in
theorem clean_calls (L : Ring) (r : Nat) (w : World) {D : Nat → Prop} (hR : RefAt w r L D) (hf : L.length ≤ 16) :
    Calls Tryd.prog 88 #[.pointer (some ⟨r, 0, none⟩)] w fun e w' => e = .returned (.tuple #[]) ∧ ∃ D', RefAt w' r (L.filter keptB) D' ∧ (∀ j, D' j → D j ∨ w.heap.size ≤ j) ∧ Kp D w w' := by
  refine calls_at (n := 47) Tryd.func88 rfl rfl (by simp) ?_
  obtain ⟨a, cap, hB, hO, hD⟩ := hR.es
  (refine At_seq ?_; refine At_region ?_; refine s_as ?_; refine AtR_nil ?_; refine At_seq ?_; refine At_seq ?_; refine At_region ?_; refine s_as ?_; refine AtR_nil ?_; refine At_block ?_)
  refine At_while (fun s : Nat × Option Addr × Nat => [(0, .pointer (some ⟨r, 0, none⟩)), (2, .slice s.2.1 ((L.take s.1).filter keptB).length s.2.2), (3, .int .i64 (s.1 : Int))])
    (fun s w' => s.1 ≤ L.length ∧ Own w' 166 3 s.2.1 ((L.take s.1).filter keptB).length s.2.2 (refC ((L.take s.1).filter keptB)) ∧ (∀ j, blkOf s.2.1 j → w.heap.size ≤ j) ∧ Kp No w w') (fun s => L.length - s.1) (0, none, 0) ⟨rfl, rfl, rfl, trivial⟩
    ⟨by omega, Own.nil _ _ _, fun j hj => by simp [blkOf] at hj, Kp.refl _ _⟩ ?_
  rintro ⟨i, ai, ci⟩ w1 junk ⟨hi, ho, hfr, K⟩ again
  simp only at hi ho hfr again ⊢
  have hB1 := hB.kp K fun h => h
  have hO1 := hO.kp K fun _ _ h => h
  by_cases hlt : i < L.length
  · obtain ⟨b, sp, rfl, hE⟩ := own_ref hO1 (by omega)
    have hsn := kept_snoc hlt
    have hfl : ((L.take i).filter keptB).length ≤ 16 := Nat.le_trans (List.length_filter_le _ _) (by rw [List.length_take]; omega)
    (refine At_seq ?_; refine At_seq ?_; refine At_region ?_; refine s_mv ?_; refine s_mv ?_; refine s_nc ?_; refine s_fa ?_; refine s_ld ?_; refine s_ln ?_; refine s_lss ?_; refine AtR_nil ?_; refine At_cond_t rfl ?_; refine At_skip ?_; refine At_seq ?_; refine At_block ?_; refine At_seq ?_; refine At_region ?_; refine s_mv ?_; refine s_nc ?_; refine s_fa ?_; refine s_ld ?_; refine s_mv ?_)
    refine s_val (x_indexAddr3 rfl rfl hlt) ?_
    refine s_val (x_fieldAddrN rfl rfl) ?_
    refine s_val (x_load1 rfl hE (refC_get (o := 2) sp hlt (by omega))) ?_
    by_cases hh : 0 < (L[i]).holds
    · have hk : keptB (L[i]) = true := by simp [keptB, hh]
      rw [if_pos hk] at hsn
      (refine s_gtr ?_; refine s_mv ?_; refine s_no rfl rfl rfl rfl ?_; refine s_no rfl rfl rfl rfl ?_; refine s_no rfl rfl rfl rfl ?_; refine s_no rfl rfl rfl rfl ?_; refine s_no rfl rfl rfl rfl ?_; refine s_no rfl rfl rfl rfl ?_; refine s_no rfl rfl rfl rfl ?_; refine s_no rfl rfl rfl rfl ?_; refine s_no rfl rfl rfl rfl ?_; refine s_pt ?_; refine AtR_nil ?_; refine At_cond_t rfl ?_; refine At_region ?_; refine s_mv ?_; refine s_mv ?_; refine s_nc ?_; refine s_fa ?_; refine s_ld ?_; refine s_mv ?_)
      refine s_val (x_indexAddr3 rfl rfl hlt) ?_
      refine s_val (x_loadN (vs := entC (L[i])) rfl hE rfl (fun j hj => by rw [show i * 3 + j = i * 3 + j from rfl]; exact refC_get sp hlt hj)) ?_
      refine AtR_go rfl (G_val (r_buildSliceA (z := .agg z166.toArray) rfl (by rfl) (by simp [Value.cells, z166])) ?_)
      rintro _ w2 ⟨b2, rfl, hb2, e2⟩
      have B2 : Blk w2 b2 166 (0, 0) (entC (L[i])) := e2.blk
      have k2 : Kp No w1 w2 := e2.kp (.inr (by omega))
      clear e2
      have ho2 := ho.kp k2 fun _ _ h => h
      have hsrc : Src Tryd.prog 3 81 (.slice (some ⟨b2, 0, none⟩) 1 1) 1 (entC (L[i])) w2 :=
        Src.ofSlice w2 (e' := 166) (by exact (inferInstance : TU Tryd.prog 81 (.slice 166)).h) ⟨b2, 0, none⟩ 1 1 _ (by rfl) (fun j u hj => by rw [add_none, Nat.zero_add, B2.cell, hj]) (fun u hu => by simp [entC] at hu; rcases hu with rfl | rfl | rfl <;> rfl)
      refine AtR_go rfl (AtG_append (tx := 81) (s := 3) rfl rfl ho2 hsrc (by simp [Value.cells, z166]) (by omega) (by simp only [maxLen]; omega) (by omega) fun a3 c3 w3 ho3 k3 hf3 => ?_)
      have k13 : Kp No w w3 := (K.trans k2).trans' k3 fun j hj => .inr (hfr j hj)
      have ho4 : Own w3 166 3 a3 ((L.take (i + 1)).filter keptB).length c3 (refC ((L.take (i + 1)).filter keptB)) := by
        rw [hsn, List.length_append, refC_app, show refC [L[i]] = entC (L[i]) by simp [refC]]
        exact ho3
      (refine s_as ?_; refine AtR_nil ?_; refine At_inBlock ?_; refine At_region ?_; refine s_mv ?_; refine s_ad ?_; refine s_as ?_; refine AtR_nil ?_)
      refine again (i + 1, a3, c3) _ _ ⟨rfl, by simp only [hsn, List.length_append]; rfl, rfl, trivial⟩ ⟨hlt, ho4, fun j hj => ?_, k13⟩ (by simp only; omega)
      rcases hf3 with rfl | ⟨b, rfl, hb⟩
      · exact hfr j hj
      · simp [blkOf] at hj; have := (K.trans k2).size; omega
    · by_cases hkk : (L[i]).key = []
      · have hk : keptB (L[i]) = false := by simp [keptB, hh, hkk]
        rw [if_neg (by rw [hk]; decide), List.append_nil] at hsn
        (refine s_gtr ?_; refine s_mv ?_; refine s_yes rfl rfl rfl rfl ?_; refine g_mv ?_; refine s_yes rfl rfl rfl rfl ?_; refine g_nc ?_; refine s_yes rfl rfl rfl rfl ?_; refine g_fa ?_; refine s_yes rfl rfl rfl rfl ?_; refine g_ld ?_; refine s_yes rfl rfl rfl rfl ?_; refine g_mv ?_)
        refine s_yes rfl rfl rfl rfl (g_val (x_indexAddr3 rfl rfl hlt) ?_)
        refine s_yes rfl rfl rfl rfl (g_val (x_fieldAddrN rfl rfl) ?_)
        refine s_yes rfl rfl rfl rfl (g_val (x_load1 rfl hE (refC_get (o := 1) sp hlt (by omega))) ?_)
        refine s_yes rfl rfl rfl rfl (g_val (x_neq_str (m := []) rfl rfl) ?_)
        rw [decide_eq_false (fun h => h hkk)]
        (refine s_pf ?_; refine AtR_nil ?_; refine At_cond_f rfl ?_; refine At_skip ?_; refine At_inBlock ?_; refine At_region ?_; refine s_mv ?_; refine s_ad ?_; refine s_as ?_; refine AtR_nil ?_)
        exact again (i + 1, ai, ci) _ _ ⟨rfl, by simp only [hsn]; rfl, rfl, trivial⟩ ⟨hlt, by rw [hsn]; exact ho, hfr, K⟩ (by simp only; omega)
      · have hk : keptB (L[i]) = true := by simp [keptB, hkk]
        rw [if_pos hk] at hsn
        (refine s_gtr ?_; refine s_mv ?_; refine s_yes rfl rfl rfl rfl ?_; refine g_mv ?_; refine s_yes rfl rfl rfl rfl ?_; refine g_nc ?_; refine s_yes rfl rfl rfl rfl ?_; refine g_fa ?_; refine s_yes rfl rfl rfl rfl ?_; refine g_ld ?_; refine s_yes rfl rfl rfl rfl ?_; refine g_mv ?_)
        refine s_yes rfl rfl rfl rfl (g_val (x_indexAddr3 rfl rfl hlt) ?_)
        refine s_yes rfl rfl rfl rfl (g_val (x_fieldAddrN rfl rfl) ?_)
        refine s_yes rfl rfl rfl rfl (g_val (x_load1 rfl hE (refC_get (o := 1) sp hlt (by omega))) ?_)
        refine s_yes rfl rfl rfl rfl (g_val (x_neq_str (m := []) rfl rfl) ?_)
        rw [decide_eq_true (show (L[i]).key ≠ [] from hkk)]
        (refine s_pf ?_; refine AtR_nil ?_; refine At_cond_t rfl ?_; refine At_region ?_; refine s_mv ?_; refine s_mv ?_; refine s_nc ?_; refine s_fa ?_; refine s_ld ?_; refine s_mv ?_)
        refine s_val (x_indexAddr3 rfl rfl hlt) ?_
        refine s_val (x_loadN (vs := entC (L[i])) rfl hE rfl (fun j hj => by rw [show i * 3 + j = i * 3 + j from rfl]; exact refC_get sp hlt hj)) ?_
        refine AtR_go rfl (G_val (r_buildSliceA (z := .agg z166.toArray) rfl (by rfl) (by simp [Value.cells, z166])) ?_)
        rintro _ w2 ⟨b2, rfl, hb2, e2⟩
        have B2 : Blk w2 b2 166 (0, 0) (entC (L[i])) := e2.blk
        have k2 : Kp No w1 w2 := e2.kp (.inr (by omega))
        clear e2
        have ho2 := ho.kp k2 fun _ _ h => h
        have hsrc : Src Tryd.prog 3 81 (.slice (some ⟨b2, 0, none⟩) 1 1) 1 (entC (L[i])) w2 :=
          Src.ofSlice w2 (e' := 166) (by exact (inferInstance : TU Tryd.prog 81 (.slice 166)).h) ⟨b2, 0, none⟩ 1 1 _ (by rfl) (fun j u hj => by rw [add_none, Nat.zero_add, B2.cell, hj]) (fun u hu => by simp [entC] at hu; rcases hu with rfl | rfl | rfl <;> rfl)
        refine AtR_go rfl (AtG_append (tx := 81) (s := 3) rfl rfl ho2 hsrc (by simp [Value.cells, z166]) (by omega) (by simp only [maxLen]; omega) (by omega) fun a3 c3 w3 ho3 k3 hf3 => ?_)
        have k13 : Kp No w w3 := (K.trans k2).trans' k3 fun j hj => .inr (hfr j hj)
        have ho4 : Own w3 166 3 a3 ((L.take (i + 1)).filter keptB).length c3 (refC ((L.take (i + 1)).filter keptB)) := by
          rw [hsn, List.length_append, refC_app, show refC [L[i]] = entC (L[i]) by simp [refC]]
          exact ho3
        (refine s_as ?_; refine AtR_nil ?_; refine At_inBlock ?_; refine At_region ?_; refine s_mv ?_; refine s_ad ?_; refine s_as ?_; refine AtR_nil ?_)
        refine again (i + 1, a3, c3) _ _ ⟨rfl, by simp only [hsn, List.length_append]; rfl, rfl, trivial⟩ ⟨hlt, ho4, fun j hj => ?_, k13⟩ (by simp only; omega)
        rcases hf3 with rfl | ⟨b, rfl, hb⟩
        · exact hfr j hj
        · simp [blkOf] at hj; have := (K.trans k2).size; omega
  have hie : i = L.length := by omega
  subst hie
  clear again
  rw [List.take_length] at ho ⊢
  (refine At_seq ?_; refine At_seq ?_; refine At_region ?_; refine s_mv ?_; refine s_mv ?_; refine s_nc ?_; refine s_fa ?_; refine s_ld ?_; refine s_ln ?_; refine s_lss ?_; refine AtR_nil ?_; refine At_cond_f rfl ?_; refine At_exit rfl ?_; refine At_region ?_; refine s_mv ?_; refine s_mv ?_; refine s_nc ?_; refine s_fa ?_)
  refine AtR_go rfl (G_skip (r_store1 (v := .slice ai (L.filter keptB).length ci) rfl rfl hB1 (by simp) rfl rfl) fun w2 e2 => ?_)
  have k2 : Kp (fun j => j = r) w1 w2 := e2.kp (.inl rfl)
  have B2 : Blk w2 r 83 (0, 0) [.slice ai (L.filter keptB).length ci] := e2.blk
  have ho2 := ho.kp k2 fun j hj h => by obtain ⟨_, hB'⟩ := ho.blk_of hj; exact hB'.ne hB1 (by decide) h
  (refine AtR_nil ?_)
  refine At_end0 Tryd.func88 rfl ⟨rfl, fun j => D j ∨ blkOf ai j, ⟨⟨ai, ci, B2, ho2, fun j hj => .inr hj⟩, .inl hR.dr, ?_⟩, ?_, ?_⟩
  · rintro j (hj | hj)
    · have := hR.dlt j hj; have := K.size; have := k2.size; omega
    · exact ho2.lt j hj
  · rintro j (hj | hj)
    · exact .inl hj
    · exact .inr (hfr j hj)
  · exact (K.mono fun _ h => h.elim).trans (k2.mono (by rintro j rfl; exact hR.dr))
end Go.Proofs.YtfngacepjcdlnaaDoor

namespace Go.Proofs.YtfngacepjcdlnaaDoor
open Go Go.Kx Go.Kr
def RefTo (w w' : World) (r : Nat) (D : Nat → Prop) (L : Ring) : Prop := ∃ D', RefAt w' r L D' ∧ (∀ j, D' j → D j ∨ w.heap.size ≤ j) ∧ Kp D w w'
theorem refTo_same {w : World} {r : Nat} {D : Nat → Prop} {L : Ring} (h : RefAt w r L D) : RefTo w w r D L := ⟨D, h, fun _ h => .inl h, Kp.refl _ _⟩
set_option maxRecDepth 100000 in
set_option maxHeartbeats 4000000 in
theorem releaseR_calls (L : Ring) (id : List UInt8) (r : Nat) (w : World) {D : Nat → Prop} (hR : RefAt w r L D) (hg : Kr.Good L) (hm : Room L) :
    Calls Tryd.prog 44 #[.pointer (some ⟨r, 0, none⟩), strV id] w fun e w' => e = .returned (.int .i64 (if hit id L = true ∧ 0 < (ent id L).holds then 0 else 14)) ∧ RefTo w w' r D (if hit id L = true ∧ 0 < (ent id L).holds then release id L else L) := by
  refine calls_at (n := 35) Tryd.func44 rfl rfl (by simp) ?_
  obtain ⟨a, cap, hB, hO, hD⟩ := hR.es
  have hfew := hg.few
  (refine At_seq ?_; refine At_region ?_; refine s_as ?_; refine AtR_nil ?_; refine At_seq ?_; refine At_region ?_; refine s_mv ?_; refine s_mv ?_)
  refine s_call x_call (at_calls L id r _ hR hg) ?_
  rintro _ w' ⟨rfl, rfl⟩
  refine ⟨_, rfl, ?_⟩
  rcases Bool.eq_false_or_eq_true (hit id L) with hh | hh
  · rw [atR_hit hh]
    obtain ⟨hl, e1, e2⟩ := ent_eq hh
    obtain ⟨b, sp, rfl, hE, hEl⟩ := own_ref' hO (by omega)
    have hho : (L[pos id L]).holds < 1000000 := hm _ (List.getElem_mem hl)
    rw [e1]
    (refine s_as ?_; refine AtR_nil ?_; refine At_seq ?_; refine At_seq ?_; refine At_region ?_; refine s_mv ?_; refine s_lss ?_; refine s_mv ?_; refine s_yes rfl rfl rfl rfl ?_; refine g_mv ?_; refine s_yes rfl rfl rfl rfl ?_; refine g_nc ?_; refine s_yes rfl rfl rfl rfl ?_; refine g_fa ?_; refine s_yes rfl rfl rfl rfl ?_; refine g_ld ?_; refine s_yes rfl rfl rfl rfl ?_; refine g_mv ?_)
    refine s_yes rfl rfl rfl rfl (g_val (x_indexAddr3 rfl rfl hl) ?_)
    refine s_yes rfl rfl rfl rfl (g_val (x_fieldAddrN rfl rfl) ?_)
    refine s_yes rfl rfl rfl rfl (g_val (x_load1 rfl hE (refC_get (o := 2) sp hl (by omega))) ?_)
    by_cases h0 : 0 < (L[pos id L]).holds
    · rw [if_pos ⟨hh, h0⟩, if_pos ⟨hh, h0⟩]
      (refine s_yes rfl rfl rfl rfl ?_; refine g_eql ?_; refine s_pf ?_; refine AtR_nil ?_; refine At_cond_f rfl ?_; refine At_skip ?_; refine At_seq ?_; refine At_region ?_; refine s_mv ?_; refine s_nc ?_; refine s_fa ?_; refine s_ld ?_; refine s_mv ?_)
      refine s_val (x_indexAddr3 rfl rfl hl) ?_
      refine s_val (x_fieldAddrN rfl rfl) ?_
      refine s_val (x_load1 rfl hE (refC_get (o := 2) sp hl (by omega))) ?_
      refine s_val (x_sub64 rfl rfl (by omega) (by omega)) ?_
      refine s_val (x_indexAddr3 rfl rfl hl) ?_
      refine s_val (x_fieldAddrN rfl rfl) ?_
      refine AtR_go rfl (G_skip (r_store1 (v := .int .i64 (((L[pos id L]).holds : Int) - 1)) rfl rfl hE (by rw [List.length_append, refC_length]; omega) rfl rfl) fun w3 e3 => ?_)
      obtain ⟨R3, k3⟩ := hR.store (e := { L[pos id L] with holds := (L[pos id L]).holds - 1 }) hB hO (hD _ rfl) hl (by omega) (by simp [entC]; omega) hE hEl e3
      (refine AtR_nil ?_; refine At_seq ?_; refine At_region ?_; refine s_mv ?_)
      refine s_call x_call (clean_calls _ r _ R3 (by rw [List.length_set]; exact hfew)) ?_
      rintro _ w4 ⟨rfl, D', R4, hD', k4⟩
      refine ⟨_, rfl, ?_⟩
      rw [filter_set hg hl] at R4
      (refine AtR_nil ?_; refine At_seq ?_; refine At_region ?_; refine s_as ?_; refine AtR_nil ?_)
      refine At_ret1 Tryd.func44 rfl (by conv => lhs; whnf) ?_
      have z3 := k3.size
      refine ⟨rfl, D', by unfold release; rw [e1]; exact R4, fun j hj => (hD' j hj).imp (fun h => h) fun h => by omega, k3.trans k4⟩
    · rw [if_neg (fun h => h0 h.2), if_neg (fun h => h0 h.2)]
      (refine s_yes rfl rfl rfl rfl ?_; refine g_eql ?_; refine s_pf ?_; refine AtR_nil ?_; refine At_cond_t rfl ?_; refine At_seq ?_; refine At_region ?_; refine s_as ?_; refine AtR_nil ?_)
      refine At_ret1 Tryd.func44 rfl (by conv => lhs; whnf) ?_
      exact ⟨rfl, refTo_same hR⟩
  · rw [atR_no hh, if_neg (fun h => by rw [hh] at h; exact absurd h.1 (by decide)), if_neg (fun h => by rw [hh] at h; exact absurd h.1 (by decide))]
    (refine s_as ?_; refine AtR_nil ?_; refine At_seq ?_; refine At_seq ?_; refine At_region ?_; refine s_mv ?_; refine s_lss ?_; refine s_mv ?_; refine s_no rfl rfl rfl rfl ?_; refine s_no rfl rfl rfl rfl ?_; refine s_no rfl rfl rfl rfl ?_; refine s_no rfl rfl rfl rfl ?_; refine s_no rfl rfl rfl rfl ?_; refine s_no rfl rfl rfl rfl ?_; refine s_no rfl rfl rfl rfl ?_; refine s_no rfl rfl rfl rfl ?_; refine s_no rfl rfl rfl rfl ?_; refine s_pt ?_; refine AtR_nil ?_; refine At_cond_t rfl ?_; refine At_seq ?_; refine At_region ?_; refine s_as ?_; refine AtR_nil ?_)
    refine At_ret1 Tryd.func44 rfl (by conv => lhs; whnf) ?_
    exact ⟨rfl, refTo_same hR⟩
set_option maxRecDepth 100000 in
set_option maxHeartbeats 4000000 in
theorem removeR_calls (L : Ring) (id : List UInt8) (r : Nat) (w : World) {D : Nat → Prop} (hR : RefAt w r L D) (hg : Kr.Good L) :
    Calls Tryd.prog 42 #[.pointer (some ⟨r, 0, none⟩), strV id] w fun e w' => e = .returned (.tuple #[.bool (decide (stat id L = 1 ∧ 0 < (ent id L).holds)), .int .i64 (if stat id L = 1 then 0 else 14)]) ∧ RefTo w w' r D (if stat id L = 1 then remove id L else L) := by
  refine calls_at (n := 34) Tryd.func42 rfl rfl (by simp) ?_
  obtain ⟨a, cap, hB, hO, hD⟩ := hR.es
  have hfew := hg.few
  (refine At_seq ?_; refine At_region ?_; refine s_as ?_; refine s_as ?_; refine AtR_nil ?_; refine At_seq ?_; refine At_seq ?_; refine At_region ?_; refine s_mv ?_; refine s_mv ?_)
  refine s_call x_call (statusR_calls L id r _ hR hg) ?_
  rintro _ w' ⟨rfl, rfl⟩
  refine ⟨_, rfl, ?_⟩
  by_cases h1 : stat id L = 1
  · obtain ⟨hh, _⟩ := stat_one.1 h1
    obtain ⟨hl, e1, e2⟩ := ent_eq hh
    obtain ⟨b, sp, rfl, hE, hEl⟩ := own_ref' hO (by omega)
    rw [if_pos h1, if_pos h1, h1]
    (refine s_neq ?_; refine AtR_nil ?_; refine At_cond_f rfl ?_; refine At_skip ?_; refine At_seq ?_; refine At_region ?_; refine s_mv ?_; refine s_mv ?_)
    refine s_call x_call (at_calls L id r _ hR hg) ?_
    rintro _ w2 ⟨rfl, rfl⟩
    refine ⟨_, rfl, ?_⟩
    rw [atR_hit hh]
    (refine s_as ?_; refine AtR_nil ?_; refine At_seq ?_; refine At_region ?_; refine s_mv ?_; refine s_nc ?_; refine s_fa ?_; refine s_ld ?_; refine s_mv ?_)
    refine s_val (x_indexAddr3 rfl rfl hl) ?_
    refine s_val (x_fieldAddrN rfl rfl) ?_
    refine AtR_go rfl (G_skip (r_store1 (v := strV []) rfl rfl hE (by rw [List.length_append, refC_length]; omega) rfl rfl) fun w3 e3 => ?_)
    obtain ⟨R3, k3⟩ := hR.store (e := { L[pos id L] with key := [] }) hB hO (hD _ rfl) hl (by omega) rfl hE hEl e3
    obtain ⟨a3, cap3, hB3, hO3, _⟩ := R3.es
    have hl3 : pos id L < (L.set (pos id L) { L[pos id L] with key := [] }).length := by rw [List.length_set]; exact hl
    obtain ⟨b3, sp3, rfl, hE3, _⟩ := own_ref' hO3 (by omega)
    have hbz : decide (1 = 1 ∧ 0 < (L[pos id L]).holds) = decide (((L[pos id L]).holds : Int) > 0) := by
      by_cases h0 : 0 < (L[pos id L]).holds
      · rw [decide_eq_true ⟨rfl, h0⟩]; exact (decide_eq_true (by omega)).symm
      · rw [decide_eq_false (fun h => h0 h.2)]; exact (decide_eq_false (by omega)).symm
    rw [e1, hbz]
    have hv3 : (refC (L.set (pos id L) { L[pos id L] with key := [] }) ++ sp3)[pos id L * 3 + 2]? = some (.int .i64 ((L[pos id L]).holds : Int)) := by
      rw [refC_get (o := 2) sp3 hl3 (by omega), List.getElem_set_self]; rfl
    (refine AtR_nil ?_; refine At_seq ?_; refine At_region ?_; refine s_mv ?_; refine s_nc ?_; refine s_fa ?_; refine s_ld ?_; refine s_mv ?_)
    refine s_val (x_indexAddr3 rfl rfl hl3) ?_
    refine s_val (x_fieldAddrN rfl rfl) ?_
    refine s_val (x_load1 rfl hE3 hv3) ?_
    refine s_val (x_gtr rfl rfl) ?_
    (refine s_as ?_; refine AtR_nil ?_; refine At_seq ?_; refine At_region ?_; refine s_mv ?_)
    refine s_call x_call (clean_calls _ r _ R3 (by rw [List.length_set]; exact hfew)) ?_
    rintro _ w4 ⟨rfl, D', R4, hD', k4⟩
    refine ⟨_, rfl, ?_⟩
    rw [filter_set hg hl] at R4
    (refine AtR_nil ?_; refine At_seq ?_; refine At_region ?_; refine s_mv ?_; refine s_as ?_; refine s_as ?_; refine AtR_nil ?_)
    refine At_ret2 Tryd.func42 rfl (by conv => lhs; whnf) (by conv => lhs; whnf) ?_
    have z3 := k3.size
    exact ⟨rfl, D', by unfold remove; rw [e1]; exact R4, fun j hj => (hD' j hj).imp (fun h => h) fun h => by omega, k3.trans k4⟩
  · rw [if_neg h1, if_neg h1]
    (refine s_neq ?_; refine AtR_nil ?_; refine At_cond_t rfl ?_; refine At_seq ?_; refine At_region ?_; refine s_as ?_; refine s_as ?_; refine AtR_nil ?_)
    refine At_ret2 Tryd.func42 rfl (by conv => lhs; whnf) (by conv => lhs; whnf) ?_
    exact ⟨by rw [decide_eq_false (fun h => h1 h.1)], refTo_same hR⟩
theorem idR_calls (key : List UInt8) (a : Option Addr) (len cap : Nat) (w : World) {D : Nat → Prop} (hk : SlE w .u8 a len cap (bs8 key) D) (hb : len ≤ 1000000) :
    Calls Tryd.prog 40 #[.slice a len cap] w fun e w' => e = .returned (strV (idK key)) ∧ Kp No w w' := by
  refine calls_at (n := 5) Tryd.func40 rfl rfl (by simp) ?_
  (refine At_seq ?_; refine At_region ?_; refine s_as ?_; refine AtR_nil ?_; refine At_seq ?_; refine At_region ?_; refine s_mv ?_)
  refine s_call x_call (derive23_calls key 1 [] 16 _ _ _ _ _ _ _ (D' := fun _ => True) hk ⟨rfl, Nat.le_refl _, by omega, .inl rfl⟩ (by omega) (by omega) (by omega)) ?_
  rintro _ w1 ⟨rfl, k1⟩
  refine ⟨_, rfl, ?_⟩
  (refine s_as ?_; refine AtR_nil ?_)
  refine At_ret1 Tryd.func40 rfl (by conv => lhs; whnf) ?_
  exact ⟨rfl, k1⟩
end Go.Proofs.YtfngacepjcdlnaaDoor
