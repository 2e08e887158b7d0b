/- Deeds' script: walked. -/
import Derived.Test.YtgobmphkakmdmaaDoorUk
import Derived.Test.YtgobmphkakmdmaaDoorKm
set_option linter.unusedVariables false
namespace Go.Proofs.YtgobmphkakmdmaaDoor
open Go Go.Kx Go.Sc
/-- A slice of deeds that can be read. -/
structure SlD (w : World) (a : Option Addr) (len cap : Nat) (xs : List DeedC) (D : Nat → Prop) : Prop where
  len_eq : xs.length = len
  le : len ≤ cap
  max : cap ≤ 9223372036854775807
  mem : cap = 0 ∨ ∃ b off, a = some ⟨b, off, none⟩ ∧ b < w.heap.size ∧ D b ∧ ∀ j, j < len → Seg w b (off + j * 8) (dC (xs.getD j default))
  inner : ∀ x ∈ xs, DOk w x D
theorem SlD.kp {S D : Nat → Prop} {w w' : World} {a : Option Addr} {len cap : Nat} {xs : List DeedC} (h : SlD w a len cap xs D) (hk : Kp S w w') (hb : ∀ b, D b → ¬ S b) : SlD w' a len cap xs D := by
  refine ⟨h.len_eq, h.le, h.max, h.mem.imp id ?_, fun x hx => (h.inner x hx).kp hk hb⟩
  rintro ⟨b, off, rfl, hl, hd, hs⟩
  exact ⟨b, off, rfl, Nat.lt_of_lt_of_le hl hk.size, hd, fun j hj => (hs j hj).kp hk (hb b hd) hl⟩
theorem SlD.kpn {D : Nat → Prop} {w w' : World} {a : Option Addr} {len cap : Nat} {xs : List DeedC} (h : SlD w a len cap xs D) (hk : Kp No w w') : SlD w' a len cap xs D := h.kp hk fun _ _ => id
theorem SlD.get {D : Nat → Prop} {w : World} {a : Option Addr} {len cap : Nat} {xs : List DeedC} (h : SlD w a len cap xs D) {j : Nat} (hj : j < len) :
    ∃ b off, a = some ⟨b, off, none⟩ ∧ b < w.heap.size ∧ D b ∧ Seg w b (off + j * 8) (dC (xs.getD j default)) ∧ xs.getD j default ∈ xs ∧ DOk w (xs.getD j default) D := by
  have hl := h.len_eq
  rcases h.mem with h0 | ⟨b, off, rfl, hb, hd, hs⟩
  · have := h.le; omega
  have e : xs.getD j default = xs[j] := by simp [List.getD, show j < xs.length by omega]
  have hm : xs.getD j default ∈ xs := by rw [e]; exact List.getElem_mem _
  exact ⟨b, off, rfl, hb, hd, hs j hj, hm, h.inner _ hm⟩
/-- The text, as long as there is no error. -/
def txt (xs : List DeedC) : List UInt8 := xs.flatMap fun x => lineD x.plain ++ [10]
theorem txt_snoc {xs : List DeedC} {i : Nat} (h : i < xs.length) : txt (xs.take (i + 1)) = txt (xs.take i) ++ (lineD (xs.getD i default).plain ++ [10]) := by
  have e : xs.getD i default = xs[i] := by simp [List.getD, h]
  unfold txt
  rw [List.take_succ_eq_append_getElem h, List.flatMap_append, e]
  simp
theorem goD_err {α : Type} {e : α → Nat} {l : α → List UInt8} {d : α} : ∀ {a b : List α}, (∀ x ∈ a, e x = 0) → e d ≠ 0 → goD e l (a ++ d :: b) = ([], e d)
  | [], b, _, hd => by rw [List.nil_append, goD, if_neg hd]
  | x :: a, b, ha, hd => by
    rw [List.cons_append, goD, if_pos (ha x (List.mem_cons_self ..)), goD_err (fun y hy => ha y (List.mem_cons_of_mem _ hy)) hd, if_neg hd]
/-- What of them is the script. -/
def prn (xs : List DeedC) : List UInt8 × Nat := goD errD (fun x => lineD x.plain) xs
theorem txt_len : ∀ {xs : List DeedC}, (∀ x ∈ xs, errD x = 0) → (txt xs).length ≤ 4097 * xs.length
  | [], _ => by simp [txt]
  | x :: xs, h => by
    have ih := txt_len (xs := xs) fun y hy => h y (List.mem_cons_of_mem _ hy)
    have h0 := h x (List.mem_cons_self ..)
    have h1 : (lineD x.plain).length ≤ 4096 := by
      unfold errD at h0
      split at h0
      · cases h0
      · split at h0
        · cases h0
        · split at h0
          · cases h0
          · omega
    unfold txt at ih ⊢
    rw [List.flatMap_cons, List.length_append, List.length_append, List.length_cons]
    simp only [List.length_cons, List.length_nil]
    omega
/-- The laid variables that are read. -/
structure Lad (w : World) : Prop where
  tab : Tab w
  err : ∃ fz, Blk w 0 72 fz [.iface 85 (.agg #[.pointer (some ⟨5, 42, none⟩)])]
theorem Lad.kpn {w w' : World} (h : Lad w) (hk : Kp No w w') : Lad w' := by
  refine ⟨h.tab.kpn hk, ?_⟩
  obtain ⟨fz, hb⟩ := h.err
  exact ⟨fz, hb.kp hk fun h => h⟩
set_option maxRecDepth 100000 in
set_option maxHeartbeats 4000000 in
theorem print_calls (xs : List DeedC) (a : Option Addr) (cap : Nat) (w : World) {D : Nat → Prop} (hs : SlD w a xs.length cap xs D) (hsm : ∀ x ∈ xs, DSm x) (hl : xs.length ≤ 1000) (hL : Lad w) :
    Calls Tryd.prog 7 #[.slice a xs.length cap] w fun e w' => e = .returned (.tuple #[strV (prn xs).1, .int .i64 ((prn xs).2 : Int)]) ∧ Kp No w w' := by
  refine calls_at (n := 38) Tryd.func7 rfl rfl (by simp) ?_
  (refine At_seq ?_; refine At_region ?_; refine s_as ?_; refine s_as ?_; refine AtR_nil ?_; refine At_seq ?_; refine At_seq ?_; refine At_region ?_; refine s_mv ?_; refine s_ln ?_; refine s_gtr ?_; refine AtR_nil ?_; refine At_cond_f rfl ?_; refine At_skip ?_; refine At_seq ?_; refine At_region ?_)
  refine AtR_go rfl (G_val r_alloc ?_)
  rintro _ w1 ⟨bo, rfl, hbo, e1⟩
  have h1 : Bd w.heap.size w1 bo [] := Bd.new e1.blk (by omega)
  have k1 : Kp No w w1 := e1.kp (.inr (by omega))
  clear e1
  (refine AtR_nil ?_; refine At_seq ?_; refine At_seq ?_; refine At_region ?_; refine s_mv ?_; refine s_ln ?_; refine s_mv ?_; refine AtR_nil ?_; refine At_block ?_)
  have z1 := k1.size
  refine At_while (fun i : Nat => [(4, .pointer (some ⟨bo, 0, none⟩)), (14, .slice a xs.length cap), (15, .int .i64 (xs.length : Int)), (16, .int .i64 (i : Int))])
    (fun i w' => i ≤ xs.length ∧ (∀ x ∈ xs.take i, errD x = 0) ∧ Bd w.heap.size w' bo (txt (xs.take i)) ∧ Kp No w w' ∧ w.heap.size ≤ w'.heap.size) (fun i => xs.length - i) 0 ⟨rfl, rfl, rfl, rfl, trivial⟩ ⟨by omega, fun x hx => by simp at hx, h1, k1, z1⟩ ?_
  rintro i w2 junk ⟨hi, hok, h2, k2, z2⟩ again
  by_cases hlt : i < xs.length
  · obtain ⟨b, off, rfl, hb, hd, hseg, hmem, hdok⟩ := (hs.kpn k2).get hlt
    have hsn := txt_snoc hlt
    have htk : xs.take (i + 1) = xs.take i ++ [xs.getD i default] := by
      have e : xs.getD i default = xs[i] := by simp [List.getD, hlt]
      rw [e, List.take_succ_eq_append_getElem hlt]
    have hsplit : xs = xs.take i ++ xs.getD i default :: xs.drop (i + 1) := by
      have e : xs.getD i default = xs[i] := by simp [List.getD, hlt]
      rw [e, List.getElem_cons_drop, List.take_append_drop]
    have hds := hsm _ hmem
    have htl := txt_len hok
    have hti : (xs.take i).length ≤ 1000 := by simp; omega
    generalize xs.getD i default = x at *
    (refine At_seq ?_; refine At_region ?_; refine s_lss ?_; refine AtR_nil ?_; refine At_seq ?_; refine At_cond_t rfl ?_; refine At_skip ?_; refine At_seq ?_; refine At_block ?_; refine At_seq ?_; refine At_region ?_)
    refine s_val (x_indexAddr (s := 8) rfl rfl (by omega) (by omega)) ?_
    rw [Int.toNat_natCast]
    refine s_val (x_load_segN rfl hseg rfl) ?_
    refine AtR_go rfl (G_val r_alloc ?_)
    rintro _ w3 ⟨b3, rfl, hb3, e3⟩
    have k3 : Kp No w2 w3 := e3.kp (.inr (by omega))
    have B3 : Blk w3 b3 32 (0, 0) (dC default) := e3.blk
    clear e3
    refine AtR_go rfl (G_skip (r_store_all (s := 8) (vs := dC x) rfl rfl B3 rfl rfl rfl) fun w4 e4 => ?_)
    have B4 : Blk w4 b3 32 (0, 0) (dC x) := e4.blk
    have k4 : Kp No w2 w4 := k3.trans' (e4.kp (S := fun j => j = b3) (.inl rfl)) (by rintro j rfl; right; omega)
    clear e4 k3 B3
    have K4 := k2.trans k4
    have z4 := k4.size
    (refine AtR_nil ?_; refine At_seq ?_; refine At_region ?_)
    refine s_val (x_load_all rfl B4 rfl) ?_
    refine s_call x_call (line_calls x _ (hdok.kpn k4) hds (hL.kpn K4).tab) ?_
    rintro _ w5 ⟨rfl, k5⟩
    refine ⟨_, rfl, ?_⟩
    have K5 := K4.trans k5
    have z5 := k5.size
    by_cases he : errD x = 0
    · rw [show lineV x = .tuple #[strV (lineD x.plain), .nilIface] by unfold lineV; rw [if_pos he]]
      have hll : (lineD x.plain).length ≤ 4096 := by
        have := txt_len (xs := [x]) (fun y hy => by rw [List.mem_singleton.1 hy]; exact he)
        simp [txt] at this
        omega
      (refine s_mv ?_; refine s_ex ?_; refine s_ex ?_; refine s_as ?_; refine s_as ?_; refine AtR_nil ?_; refine At_seq ?_; refine At_seq ?_; refine At_region ?_; refine s_mv ?_)
      refine s_val (x_neqN (by kernel_rfl) rfl) ?_
      (refine AtR_nil ?_; refine At_cond_f rfl ?_; refine At_skip ?_; refine At_region ?_; refine s_mv ?_)
      refine s_val (x_cat (m := [10]) rfl rfl (by simp; omega)) ?_
      refine s_call x_call (ws_calls w.heap.size bo _ (lineD x.plain ++ [10]) _ ((h2.kpn k4).kpn k5) (by rw [List.length_append]; simp only [List.length_singleton]; omega) (by omega)) ?_
      rintro _ w6 ⟨⟨v6, rfl⟩, h6, k6⟩
      refine ⟨_, rfl, ?_⟩
      have z6 := k6.size
      (refine AtR_nil ?_; refine At_inBlock ?_; refine At_region ?_; refine s_ad ?_; refine s_mv ?_; refine AtR_nil ?_)
      refine again (i + 1) _ _ ⟨rfl, rfl, rfl, rfl, trivial⟩ ⟨hlt, fun y hy => ?_, by rw [hsn]; exact h6, K5.trans' k6 fun j hj => .inr hj, by omega⟩ (by omega)
      rw [htk] at hy
      rcases List.mem_append.1 hy with hy | hy
      · exact hok y hy
      · rw [List.mem_singleton.1 hy]; exact he
    · rw [show lineV x = .tuple #[strV [], .iface 25 (.int .i64 (errD x))] by unfold lineV; rw [if_neg he]]
      have hor : ((errD x : Nat) : Int) = 2 ∨ ((errD x : Nat) : Int) = 15 := by
        rcases errD_or x with h | h | h
        · exact absurd h he
        · exact .inl (by rw [h]; rfl)
        · exact .inr (by rw [h]; rfl)
      have hpr : prn xs = ([], errD x) := by
        unfold prn
        rw [hsplit]
        exact goD_err hok he
      rw [hpr]
      (refine s_mv ?_; refine s_ex ?_; refine s_ex ?_; refine s_as ?_; refine s_as ?_; refine AtR_nil ?_; refine At_seq ?_; refine At_seq ?_; refine At_region ?_; refine s_mv ?_)
      refine s_val (x_neqI (by kernel_rfl) rfl rfl) ?_
      (refine AtR_nil ?_; refine At_cond_t rfl ?_; refine At_seq ?_; refine At_region ?_; refine s_mv ?_)
      refine s_call x_call (split_calls _ hor _ (hL.kpn K5).err) ?_
      rintro _ w6 ⟨rfl, k6⟩
      refine ⟨_, rfl, ?_⟩
      (refine s_mv ?_; refine s_ex ?_; refine s_ex ?_; refine s_as ?_; refine s_as ?_; refine AtR_nil ?_; refine At_seq ?_; refine At_region ?_; refine s_mv ?_; refine s_as ?_; refine s_as ?_; refine AtR_nil ?_)
      refine At_ret2 Tryd.func7 rfl (by conv => lhs; whnf) (by conv => lhs; whnf) ?_
      exact ⟨rfl, K5.trans k6⟩
  · obtain rfl : i = xs.length := by omega
    rw [List.take_length] at h2 hok
    have htl := txt_len hok
    (refine At_seq ?_; refine At_region ?_; refine s_lss ?_; refine AtR_nil ?_; refine At_seq ?_; refine At_cond_f rfl ?_; refine At_exit rfl ?_; refine At_seq ?_; refine At_region ?_)
    refine s_call x_call (st_calls w.heap.size bo _ _ h2 (by omega)) ?_
    rintro _ w3 ⟨rfl, k3⟩
    refine ⟨_, rfl, ?_⟩
    (refine s_as ?_; refine s_as ?_; refine AtR_nil ?_)
    refine At_ret2 Tryd.func7 rfl (by conv => lhs; whnf) (by conv => lhs; whnf) ?_
    have h0 : (prn xs).2 = 0 := goD_ok.2 hok
    have h1 : (prn xs).1 = txt xs := goD_text h0
    rw [h0, h1]
    exact ⟨rfl, k2.trans' k3 fun j hj => .inr hj⟩
end Go.Proofs.YtgobmphkakmdmaaDoor
