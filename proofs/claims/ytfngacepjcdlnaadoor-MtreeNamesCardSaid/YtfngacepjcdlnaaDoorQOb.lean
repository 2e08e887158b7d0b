/- A region that draws its order: two chains, of three operations and of two, in any order among each other. Own work; nothing of a program is named here. | Two slices of octets laid and written out beside a call, in any order. -/
import Derived.Test.YtfngacepjcdlnaaDoorQMf
import Derived.Test.YtfngacepjcdlnaaDoorQNa
set_option linter.unusedVariables false
namespace Go.Kx
open Go
def Does (P : Program) (f : Fm) (n : Nat) (R : Ending → World → Prop) (ops : Array Oper) (S : World → Prop) (k : List Item) (i : Nat) (I J : Env → World → Prop) : Prop :=
 ∀ (fuel : Nat) (listed : Array Bool) (env : Env) (w : World), I env w → (∀ env' w', J env' w' → S w' ∧ AtH P f n R ops S k fuel (listed.setIfInBounds i true) env' w') → OpH P f n R ops S k fuel listed env w i
def wv (L : Array Bool) (xs : List Nat) : Array Bool := xs.foldl (fun l x => l.setIfInBounds x true) L
def weaveOk (ops : Array Oper) (L : Array Bool) (a1 a2 a3 b1 b2 : Nat) : Bool :=
 let l (i j : Nat) : Array Bool := wv (wv L ([a1, a2, a3].take i)) ([b1, b2].take j)
 let two (i j x y : Nat) : Bool := Region.ready .any ops (l i j) == [x, y] || Region.ready .any ops (l i j) == [y, x]
 let one (i j x : Nat) : Bool := Region.ready .any ops (l i j) == [x]
 let a (i j x : Nat) : Bool := (l i j).setIfInBounds x true == l (i + 1) j
 let b (i j x : Nat) : Bool := (l i j).setIfInBounds x true == l i (j + 1)
 (two 0 0 a1 b1 && two 1 0 a2 b1 && two 2 0 a3 b1 && one 3 0 b1) && (two 0 1 a1 b2 && two 1 1 a2 b2 && two 2 1 a3 b2 && one 3 1 b2) && (one 0 2 a1 && one 1 2 a2 && one 2 2 a3)
  && (a 0 0 a1 && a 1 0 a2 && a 2 0 a3) && (a 0 1 a1 && a 1 1 a2 && a 2 1 a3) && (a 0 2 a1 && a 1 2 a2 && a 2 2 a3)
  && (b 0 0 b1 && b 1 0 b1 && b 2 0 b1 && b 3 0 b1) && (b 0 1 b2 && b 1 1 b2 && b 2 1 b2 && b 3 1 b2)
section
variable {P : Program} {f : Fm} {n : Nat} {R : Ending → World → Prop} {k : List Item} {S : World → Prop} {ops : Array Oper}
theorem AtH_weave {fuel : Nat} {listed : Array Bool} (a1 a2 a3 b1 b2 : Nat) (I : Nat → Nat → Env → World → Prop) (hok : weaveOk ops listed a1 a2 a3 b1 b2 = true)
  (hS : ∀ i j env w, I i j env w → S w)
  (A1 : ∀ j, Does P f n R ops S k a1 (I 0 j) (I 1 j)) (A2 : ∀ j, Does P f n R ops S k a2 (I 1 j) (I 2 j)) (A3 : ∀ j, Does P f n R ops S k a3 (I 2 j) (I 3 j))
  (B1 : ∀ i, Does P f n R ops S k b1 (I i 0) (I i 1)) (B2 : ∀ i, Does P f n R ops S k b2 (I i 1) (I i 2))
  (h : ∀ env w, I 3 2 env w → AtH P f n R ops S k fuel (wv (wv listed [a1, a2, a3]) [b1, b2]) env w) :
  ∀ env w, I 0 0 env w → AtH P f n R ops S k (fuel + 5) listed env w := by
 simp only [weaveOk, Bool.and_eq_true] at hok
 obtain ⟨⟨⟨⟨⟨⟨⟨⟨⟨⟨r00, r10⟩, r20⟩, r30⟩, ⟨⟨r01, r11⟩, r21⟩, r31⟩, ⟨r02, r12⟩, r22⟩, ⟨p00, p10⟩, p20⟩, ⟨p01, p11⟩, p21⟩, ⟨p02, p12⟩, p22⟩, ⟨⟨q00, q10⟩, q20⟩, q30⟩, ⟨⟨q01, q11⟩, q21⟩, q31⟩ := hok
 have goA : ∀ {x : Nat} {L L' : Array Bool} {I0 J0 : Env → World → Prop} {fu : Nat}, Does P f n R ops S k x I0 J0 → (L.setIfInBounds x true == L') = true → (∀ env w, J0 env w → S w) → (∀ env w, J0 env w → AtH P f n R ops S k fu L' env w) → ∀ env w, I0 env w → OpH P f n R ops S k fu L env w x :=
  fun hd he hs hn env w hi => hd _ _ env w hi fun env' w' hj => ⟨hs env' w' hj, AtH_as (hn env' w' hj) he rfl⟩
 have g32 := h
 have g22 : ∀ env w, I 2 2 env w → AtH P f n R ops S k (fuel + 1) (wv (wv listed [a1, a2]) [b1, b2]) env w := fun env w hi => AtH_one a3 (by simpa using r22) (goA (A3 2) p22 (hS 3 2) g32 env w hi)
 have g31 : ∀ env w, I 3 1 env w → AtH P f n R ops S k (fuel + 1) (wv (wv listed [a1, a2, a3]) [b1]) env w := fun env w hi => AtH_one b2 (by simpa using r31) (goA (B2 3) q31 (hS 3 2) g32 env w hi)
 have g12 : ∀ env w, I 1 2 env w → AtH P f n R ops S k (fuel + 2) (wv (wv listed [a1]) [b1, b2]) env w := fun env w hi => AtH_one a2 (by simpa using r12) (goA (A2 2) p12 (hS 2 2) g22 env w hi)
 have g21 : ∀ env w, I 2 1 env w → AtH P f n R ops S k (fuel + 2) (wv (wv listed [a1, a2]) [b1]) env w := fun env w hi => AtH_two a3 b2 r21 (goA (A3 1) p21 (hS 3 1) g31 env w hi) (goA (B2 2) q21 (hS 2 2) g22 env w hi)
 have g30 : ∀ env w, I 3 0 env w → AtH P f n R ops S k (fuel + 2) (wv (wv listed [a1, a2, a3]) []) env w := fun env w hi => AtH_one b1 (by simpa using r30) (goA (B1 3) q30 (hS 3 1) g31 env w hi)
 have g02 : ∀ env w, I 0 2 env w → AtH P f n R ops S k (fuel + 3) (wv (wv listed []) [b1, b2]) env w := fun env w hi => AtH_one a1 (by simpa using r02) (goA (A1 2) p02 (hS 1 2) g12 env w hi)
 have g11 : ∀ env w, I 1 1 env w → AtH P f n R ops S k (fuel + 3) (wv (wv listed [a1]) [b1]) env w := fun env w hi => AtH_two a2 b2 r11 (goA (A2 1) p11 (hS 2 1) g21 env w hi) (goA (B2 1) q11 (hS 1 2) g12 env w hi)
 have g20 : ∀ env w, I 2 0 env w → AtH P f n R ops S k (fuel + 3) (wv (wv listed [a1, a2]) []) env w := fun env w hi => AtH_two a3 b1 r20 (goA (A3 0) p20 (hS 3 0) g30 env w hi) (goA (B1 2) q20 (hS 2 1) g21 env w hi)
 have g01 : ∀ env w, I 0 1 env w → AtH P f n R ops S k (fuel + 4) (wv (wv listed []) [b1]) env w := fun env w hi => AtH_two a1 b2 r01 (goA (A1 1) p01 (hS 1 1) g11 env w hi) (goA (B2 0) q01 (hS 0 2) g02 env w hi)
 have g10 : ∀ env w, I 1 0 env w → AtH P f n R ops S k (fuel + 4) (wv (wv listed [a1]) []) env w := fun env w hi => AtH_two a2 b1 r10 (goA (A2 0) p10 (hS 2 0) g20 env w hi) (goA (B1 1) q10 (hS 1 1) g11 env w hi)
 exact fun env w hi => AtH_two a1 b1 r00 (goA (A1 0) p00 (hS 1 0) g10 env w hi) (goA (B1 0) q00 (hS 0 1) g01 env w hi)
theorem Does.val {i : Nat} {o : Oper} {I J : Env → World → Prop} (hi : ops[i]? = some o) (gi : ∀ env w, I env w → gsays ops n env o true) (h : ∀ env w, I env w → ∃ v w1, Run P n env o w (.ok (.value v) w1) ∧ S w1 ∧ J (updo env o.dst v) w1) : Does P f n R ops S k i I J := fun fuel listed env w hI hk => by
 obtain ⟨v, w1, r1, s1, j1⟩ := h env w hI
 exact OpH_val (Q1 := fun v' w' => v' = v ∧ w' = w1) hi (gi env w hI) ⟨v, w1, r1, rfl, rfl⟩ (by rintro _ _ ⟨rfl, rfl⟩; exact ⟨s1, (hk _ _ j1).2⟩)
theorem Does.call {i : Nat} {o : Oper} {I J : Env → World → Prop} (hi : ops[i]? = some o) (gi : ∀ env w, I env w → gsays ops n env o true)
  (h : ∀ env w, I env w → ∃ gf args Q, Run P n env o w (.ok (.enter gf args) w) ∧ Calls P gf args w Q ∧ ∀ e w'', Q e w'' → ∃ v, e = .returned v ∧ S w'' ∧ J (updo env o.dst v) w'') : Does P f n R ops S k i I J := fun fuel listed env w hI hk => by
 obtain ⟨gf, args, Q, r1, hc, hq⟩ := h env w hI
 refine OpH_call hi (gi env w hI) r1 hc fun e w'' hh => ?_
 obtain ⟨v, h1, h2, h3⟩ := hq e w'' hh
 exact ⟨v, h1, h2, (hk _ _ h3).2⟩
end
attribute [irreducible] Does
end Go.Kx
namespace Go.Kx
open Go
theorem live_upd {d : Nat} {v : Value} : ∀ {l : List (Nat × Value)} {env : Env}, Live env l → (l.all fun p => !(p.1 == d)) = true → Live (upd env d v) l
 | [], _, _, _ => trivial
 | (e, u) :: l, env, h, hd => by
  simp only [List.all_cons, Bool.and_eq_true, Bool.not_eq_true', beq_eq_false_iff_ne, ne_eq] at hd
  exact ⟨by rw [upd_off _ _ hd.1]; exact h.1, live_upd h.2 hd.2⟩
end Go.Kx
namespace Go.Proofs.YtfngacepjcdlnaaDoor
open Go Go.Kx Go.Kr Go.Mt
def weaveSl (base : List (Nat × Value)) (d1 d2 d3 e1 e2 : Nat) : Bool :=
 ([d1, d2, d3, e1, e2].all fun d => base.all fun p => !(p.1 == d)) && decide ([d1, d2, d3, e1, e2].Nodup)
theorem weave_mac {f : Fm} {n : Nat} {R : Ending → World → Prop} {k : List Item} {ops : Array Oper} {fuel : Nat} {listed : Array Bool} (w0 : World) (base : List (Nat × Value)) (a1 a2 a3 b1 b2 : Nat) {d1 d2 d3 e1 e2 mA mB : Nat} (lA lB : List UInt8) (V : Value)
  {osA osB : List Operand} {partsA partsB : List (Nat × Operand)} {o1 o2 o3 p1 p2 : Oper} {y1 y2 z1 z2 : TypeId} {s1 s2 s3 s4 : String} {f1 f2 f3 f4 : Array Edge} {g1 g2 g3 g4 : Option (Nat × Bool)}
  (hA1 : ops[a1]? = some o1) (eA1 : o1 = ⟨some d1, .buildSlice 31 mA partsA.toArray, y1, s1, f1, g1⟩)
  (hA2 : ops[a2]? = some o2) (eA2 : o2 = ⟨some d2, .convert 31 31 (.tmp d1), y2, s2, f2, g2⟩)
  (hA3 : ops[a3]? = some o3) (eA3 : o3.dst = some d3)
  (hB1 : ops[b1]? = some p1) (eB1 : p1 = ⟨some e1, .buildSlice 31 mB partsB.toArray, z1, s3, f3, g3⟩)
  (hB2 : ops[b2]? = some p2) (eB2 : p2 = ⟨some e2, .convert 31 31 (.tmp e1), z2, s4, f4, g4⟩)
  (hpA : partsA = osA.zipIdx.map (fun p => (p.2, p.1))) (hlA : osA.length = mA) (hmA : mA = lA.length) (hvA : ∀ env, osA.map (ev n env) = ints .u8 (bs8 lA))
  (hpB : partsB = osB.zipIdx.map (fun p => (p.2, p.1))) (hlB : osB.length = mB) (hmB : mB = lB.length) (hvB : ∀ env, osB.map (ev n env) = ints .u8 (bs8 lB)) (hlt : lA.length ≤ 100 ∧ lB.length ≤ 100)
  (hok : weaveOk ops listed a1 a2 a3 b1 b2 = true) (hsl : weaveSl base d1 d2 d3 e1 e2 = true) (hn : d1 < n ∧ e1 < n)
  (gs : ∀ env, Live env base → gsays ops n env o1 true ∧ gsays ops n env o2 true ∧ gsays ops n env o3 true ∧ gsays ops n env p1 true ∧ gsays ops n env p2 true)
  (h1 : 1 < w0.heap.size)
  (hcall : ∀ env w b, Live env base → env d2 = .slice (some ⟨b, 0, none⟩) lA.length lA.length → (∃ fz, Blk w b 5 fz (ints .u8 (bs8 lA))) → Kp No w0 w →
   ∃ gf args Q, Run Tryd.prog n env o3 w (.ok (.enter gf args) w) ∧ Calls Tryd.prog gf args w Q ∧ ∀ e w'', Q e w'' → e = .returned V ∧ Kp No w w'')
  (h : ∀ env w b, Live env base → env d3 = V → env e2 = .slice (some ⟨b, 0, none⟩) lB.length lB.length → (∃ fz, Blk w b 5 fz (ints .u8 (bs8 lB))) → Kp No w0 w → AtH Tryd.prog f n R ops (fun w => Kp No w0 w) k fuel (wv (wv listed [a1, a2, a3]) [b1, b2]) env w) :
  ∀ env, Live env base → ∀ w, Kp No w0 w → AtH Tryd.prog f n R ops (fun w => Kp No w0 w) k (fuel + 5) listed env w := by
 simp only [weaveSl, Bool.and_eq_true, List.all_cons, List.all_nil, Bool.and_true, decide_eq_true_eq, List.nodup_cons, List.mem_cons, List.not_mem_nil, or_false, not_or, not_false_eq_true, List.nodup_nil, and_true] at hsl
 obtain ⟨⟨hs1, hs2, hs3, hs4, hs5⟩, ⟨n12, n13, n14, n15⟩, ⟨n23, n24, n25⟩, ⟨n34, n35⟩, n45⟩ := hsl
 let PA : Nat → Env → World → Nat → Prop := fun i env w b => match i with
  | 0 => b = 1
  | 1 => env d1 = .slice (some ⟨b, 0, none⟩) lA.length lA.length ∧ Blk w b 5 (0, 0) (ints .u8 (bs8 lA)) ∧ w0.heap.size ≤ b
  | 2 => env d2 = .slice (some ⟨b, 0, none⟩) lA.length lA.length ∧ (∃ fz, Blk w b 5 fz (ints .u8 (bs8 lA))) ∧ w0.heap.size ≤ b
  | _ => env d3 = V
 let PB : Nat → Env → World → Nat → Prop := fun j env w b => match j with
  | 0 => b = 1
  | 1 => env e1 = .slice (some ⟨b, 0, none⟩) lB.length lB.length ∧ Blk w b 5 (0, 0) (ints .u8 (bs8 lB)) ∧ w0.heap.size ≤ b
  | _ => env e2 = .slice (some ⟨b, 0, none⟩) lB.length lB.length ∧ (∃ fz, Blk w b 5 fz (ints .u8 (bs8 lB))) ∧ w0.heap.size ≤ b
 have kA : ∀ {i : Nat} {env : Env} {w w' : World} {b d : Nat} {v : Value} {X : Nat → Prop}, PA i env w b → Kp X w w' → ¬ X b → (d = e1 ∨ d = e2) → PA i (upd env d v) w' b := fun {i env w w' b d v X} hp kk hx hd => by
  have q1 : d1 ≠ d := by rcases hd with rfl | rfl <;> omega
  have q2 : d2 ≠ d := by rcases hd with rfl | rfl <;> omega
  have q3 : d3 ≠ d := by rcases hd with rfl | rfl <;> omega
  match i, hp with
  | 0, hp => exact hp
  | 1, ⟨p1, p2, p3⟩ => exact ⟨by rw [upd_off _ _ q1]; exact p1, p2.kp kk hx, p3⟩
  | 2, ⟨p1, ⟨fz, p2⟩, p3⟩ => exact ⟨by rw [upd_off _ _ q2]; exact p1, ⟨fz, p2.kp kk hx⟩, p3⟩
  | i + 3, p1 => exact (by rw [upd_off _ _ q3]; exact p1 : upd env d v d3 = V)
 have kB : ∀ {j : Nat} {env : Env} {w w' : World} {b d : Nat} {v : Value} {X : Nat → Prop}, PB j env w b → Kp X w w' → ¬ X b → (d = d1 ∨ d = d2 ∨ d = d3) → PB j (upd env d v) w' b := fun {j env w w' b d v X} hp kk hx hd => by
  have q1 : e1 ≠ d := by rcases hd with rfl | rfl | rfl <;> omega
  have q2 : e2 ≠ d := by rcases hd with rfl | rfl | rfl <;> omega
  match j, hp with
  | 0, hp => exact hp
  | 1, ⟨p1, p2, p3⟩ => exact ⟨by rw [upd_off _ _ q1]; exact p1, p2.kp kk hx, p3⟩
  | j + 2, ⟨p1, ⟨fz, p2⟩, p3⟩ => exact ⟨by rw [upd_off _ _ q2]; exact p1, ⟨fz, p2.kp kk hx⟩, p3⟩
 let I : Nat → Nat → Env → World → Prop := fun i j env w => Live env base ∧ Kp No w0 w ∧ ∃ b b', (b ≠ b' ∨ b = 1) ∧ b < w.heap.size ∧ b' < w.heap.size ∧ PA i env w b ∧ PB j env w b'
 have fin := AtH_weave (P := Tryd.prog) (f := f) (n := n) (R := R) (k := k) (S := fun w => Kp No w0 w) (fuel := fuel) a1 a2 a3 b1 b2 I hok (fun i j env w hi => hi.2.1) ?_ ?_ ?_ ?_ ?_ ?_
 ·exact fun env he w kw => fin env w ⟨he, kw, 1, 1, .inr rfl, by have := kw.size; omega, by have := kw.size; omega, rfl, rfl⟩
 ·intro j
  refine Does.val hA1 (fun env w hi => (gs env hi.1).1) ?_
  rintro env w ⟨he, kw, b, b', hbb, hb, hb', rfl, pB⟩
  subst eA1
  obtain ⟨v, w1, r1, bn, rfl, hbn, eff⟩ := r_buildSlice1 (P := Tryd.prog) (n := n) (env := env) (w := w) (dst := some d1) (ty := y1) (pos := s1) (aft := f1) (g := g1) (T := 31) (len := mA) hpA hlA (by omega) rfl (hvA env) (ints_one _ _)
  have kk : Kp No w w1 := eff.kp (.inr (by omega))
  have hz := kk.size
  have hl := (eff.blk : Blk w1 bn 5 (0, 0) (ints .u8 (bs8 lA))).lt
  have hw0 := kw.size
  exact ⟨_, w1, r1, kw.trans kk, live_upd he hs1, kw.trans kk, bn, b', .inl (by omega), hl, by omega, ⟨by rw [hmA]; exact upd_at _ _ _, eff.blk, by omega⟩, kB pB kk id (.inl rfl)⟩
 ·intro j
  refine Does.val hA2 (fun env w hi => (gs env hi.1).2.1) ?_
  rintro env w ⟨he, kw, b, b', hbb, hb, hb', ⟨p1, p2, p3⟩, pB⟩
  subst eA2
  obtain ⟨v, w1, r1, rfl, hf, kk⟩ := r_conv_same (P := Tryd.prog) (n := n) (env := env) (w := w) (dst := some d2) (ty := y2) (pos := s2) (aft := f2) (g := g2) (T := 31) (E := 5) (ev_tmp hn.1 p1) p2
  have hz := kk.size
  have kn : Kp No w0 w1 := kw.trans' kk (by rintro j rfl; right; exact p3)
  exact ⟨_, w1, r1, kn, live_upd he hs2, kn, b, b', hbb, by omega, by omega, ⟨upd_at _ _ _, hf, p3⟩, kB pB kk (by rintro rfl; omega) (.inr (.inl rfl))⟩
 ·intro j
  refine Does.call hA3 (fun env w hi => (gs env hi.1).2.2.1) ?_
  rintro env w ⟨he, kw, b, b', hbb, hb, hb', ⟨p1, p2, p3⟩, pB⟩
  obtain ⟨gf, args, Q, r1, hc, hq⟩ := hcall env w b he p1 p2 kw
  refine ⟨gf, args, Q, r1, hc, fun e w'' hh => ?_⟩
  obtain ⟨rfl, kk⟩ := hq e w'' hh
  have hz := kk.size
  rw [eA3]
  exact ⟨V, rfl, kw.trans kk, live_upd he hs3, kw.trans kk, b, b', hbb, by omega, by omega, upd_at _ _ _, kB pB kk id (.inr (.inr rfl))⟩
 ·intro i
  refine Does.val hB1 (fun env w hi => (gs env hi.1).2.2.2.1) ?_
  rintro env w ⟨he, kw, b, b', hbb, hb, hb', pA, rfl⟩
  subst eB1
  obtain ⟨v, w1, r1, bn, rfl, hbn, eff⟩ := r_buildSlice1 (P := Tryd.prog) (n := n) (env := env) (w := w) (dst := some e1) (ty := z1) (pos := s3) (aft := f3) (g := g3) (T := 31) (len := mB) hpB hlB (by omega) rfl (hvB env) (ints_one _ _)
  have kk : Kp No w w1 := eff.kp (.inr (by omega))
  have hz := kk.size
  have hl := (eff.blk : Blk w1 bn 5 (0, 0) (ints .u8 (bs8 lB))).lt
  have hw0 := kw.size
  exact ⟨_, w1, r1, kw.trans kk, live_upd he hs4, kw.trans kk, b, bn, .inl (by omega), by omega, hl, kA pA kk id (.inl rfl), ⟨by rw [hmB]; exact upd_at _ _ _, eff.blk, by omega⟩⟩
 ·intro i
  refine Does.val hB2 (fun env w hi => (gs env hi.1).2.2.2.2) ?_
  rintro env w ⟨he, kw, b, b', hbb, hb, hb', pA, ⟨p1, p2, p3⟩⟩
  subst eB2
  obtain ⟨v, w1, r1, rfl, hf, kk⟩ := r_conv_same (P := Tryd.prog) (n := n) (env := env) (w := w) (dst := some e2) (ty := z2) (pos := s4) (aft := f4) (g := g4) (T := 31) (E := 5) (ev_tmp hn.2 p1) p2
  have hz := kk.size
  have kn : Kp No w0 w1 := kw.trans' kk (by rintro j rfl; right; exact p3)
  exact ⟨_, w1, r1, kn, live_upd he hs5, kn, b, b', hbb, by omega, by omega, kA pA kk (by rintro rfl; omega) (.inr rfl), ⟨upd_at _ _ _, hf, p3⟩⟩
 ·rintro env w ⟨he, kw, b, b', hbb, hb, hb', p1, ⟨q1, q2, q3⟩⟩
  exact h env w b' he p1 q1 q2 kw
end Go.Proofs.YtfngacepjcdlnaaDoor
