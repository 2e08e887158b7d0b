/- The law MtreeNames. | The law MtreeNames, its arguments opened. -/
import Derived.Test.YtfngacepjcdlnaaDoorQOb
import Derived.Test.YtfngacepjcdlnaaDoorQTk
import Derived.Test.YtfngacepjcdlnaaDoorQNm
import Derived.Test.YtfngacepjcdlnaaDoorQKb
set_option linter.unusedVariables false
namespace Go.Mt
open Go Go.Kx Go.Proofs.YtfngacepjcdlnaaDoor
theorem totF_one (k : Nat) : ∀ d, totF [k] d = d
 | 0 => rfl
 | d + 1 => by
  rw [totF, totF_one k d]
  simp [runs]
theorem Tree.one {key name : List UInt8} {st : St} {r : Pr} {d k : Nat} {b : List UInt8} {S : List Nat} (h : Tree key name st r d (upd (fun _ => none) k (some b)) S) : S.length = 1 + d := by
 have hb : Bl [(k, b)] (upd (fun _ => none) k (some b)) := bl_nil.put k b
 have h1 := totF_tot (xs := [k]) (List.pairwise_singleton _ _) d
 have h2 := hb.count h.out
 rw [totF_one] at h1
 simp only [List.map_cons, List.map_nil] at h2
 rw [h.rep.len, ← h2, ← h1]
 simp
theorem Tree.in_room {key name : List UInt8} {st : St} {r : Pr} {d k : Nat} {b : List UInt8} {S : List Nat} (h : Tree key name st r d (upd (fun _ => none) k (some b)) S) : k < roomN d := by
 by_cases hk : roomN d ≤ k
 ·have := h.out k hk
  simp [upd] at this
 ·omega
theorem Wood.other {w w' : World} {g g2 sp bo bo2 : Nat} {key name key2 name2 : List UInt8} {st st' : St} {Ds Ds' Dg Dg2 : Nat → Prop} (h2 : Wood w g2 sp bo2 key2 name2 st Ds Dg2) (h : Wood w' g sp bo key name st' Ds' Dg) (hD : ∀ j, Ds' j → Ds j ∨ w.heap.size ≤ j) (k : Kp Ds w w') : Wood w' g2 sp bo2 key2 name2 st' Ds' Dg2 :=
 ⟨h2.gr.kp k fun j hj => (h2.sep j hj).1, h.stt, fun j hj => ⟨fun hd => (hD j hd).elim (h2.sep j hj).1 fun h => by have := (h2.sep j hj).2; omega, Nat.lt_of_lt_of_le (h2.sep j hj).2 k.size⟩⟩
end Go.Mt
namespace Go.Proofs.YtfngacepjcdlnaaDoor
open Go Go.Kx Go.Kr Go.Mt
theorem _root_.Go.Mt.StAt.sec2 {w : World} {sp : Nat} {st : St} {D : Nat → Prop} (h : StAt w sp st D) (h0 : 0 < st.b.length) : ∃ ab cb ai ci, Blk w sp 51 (0, 0) [.slice (some ⟨ab, 0, none⟩) st.b.length cb, .slice ai st.b.length ci, .int .i64 (st.room : Int)] ∧ Seg w ab 0 (st.b.map strV) ∧ ab < w.heap.size := by
 obtain ⟨ab, cb, ai, ci, hB, hOb, hOi, _, _⟩ := h.es
 obtain ⟨b, sp', rfl, hBl, _, hseg⟩ := own_in hOb h0
 exact ⟨b, cb, ai, ci, hB, hseg, hBl.lt⟩
abbrev nmV (ak ao : Option Addr) (kl ol cap cap2 k sp ga gb b13 b15 : Nat) : List (Nat × Value) :=
 [(0, .slice ak kl cap), (1, .slice ao ol cap2), (7, .int .i64 (k : Int)), (8, .pointer (some ⟨sp, 0, none⟩)), (11, .pointer (some ⟨ga, 0, none⟩)), (12, .pointer (some ⟨gb, 0, none⟩)), (13, .pointer (some ⟨b13, 0, none⟩)), (15, .pointer (some ⟨b15, 0, none⟩))]
set_option maxRecDepth 100000 in
set_option maxHeartbeats 64000000 in
theorem names_row (W : World) (hC : ∃ fz, Blk W 1 243 fz (ints .u64 (ws kSha))) (key : List UInt8) (ak : Option Addr) (len cap : Nat) (hk : Sl W .u8 ak len cap (bs8 key)) (other : List UInt8) (ao : Option Addr) (len2 cap2 : Nat) (ho : Sl W .u8 ao len2 cap2 (bs8 other)) (i : Int) (hi : -9223372036854775808 ≤ i ∧ i ≤ 9223372036854775807) :
  Calls Tryd.prog 5 #[.slice ak len cap, .slice ao len2 cap2, .int .i64 i] W fun e w' => e = .returned (.bool true) ∧ RowKit.Below W.heap.size W w' := by
 have hlk := hk.len_eq
 have hlo := ho.len_eq
 simp only [bs8_length] at hlk hlo
 subst hlk
 subst hlo
 have hkc := hk.le
 have hkm := hk.max
 have hoc := ho.le
 have hom := ho.max
 have none0 : ∀ {w : World} {a : Option Addr} {l : List UInt8} {cc : Nat}, Sl w .u8 a l.length cc (bs8 l) → a = none → l.length = 0 := fun hs h => by
  rcases hs.mem with ⟨_, h2⟩ | ⟨b, off, e, _, _⟩
  ·have := hs.le; omega
  ·rw [h] at e; cases e
 have hCk : ∀ {w'}, Kp No W w' → ∃ fz, Blk w' 1 243 fz (ints .u64 (ws kSha)) := fun k => by obtain ⟨fz, hc⟩ := hC; exact ⟨fz, hc.kp k fun h => h⟩
 have hC1 : 1 < W.heap.size := by obtain ⟨fz, hc⟩ := hC; exact hc.lt
 have hkE : ∀ {w'}, Kp No W w' → SlE w' .u8 ak key.length cap (bs8 key) (fun _ => True) := fun k => (hk.kpn k).e fun _ _ => trivial
 have hoE : ∀ {w'}, Kp No W w' → SlE w' .u8 ao other.length cap2 (bs8 other) (fun _ => True) := fun k => (ho.kpn k).e fun _ _ => trivial
 refine calls_at (n := 195) Tryd.func5 rfl rfl (by simp) ?_
 (refine At_seq (At_region ?_); refine s_as ?_; refine AtR_nil (At_seq (At_seq ?_)); refine At_region ?_)
 refine s_call x_call (awake16_calls _ hC) ?_
 rintro _ w1 ⟨rfl, K1⟩
 refine ⟨_, rfl, ?_⟩
 by_cases hs1 : 100 < key.length
 ·skip
  (refine s_nt ?_; refine s_mv ?_; refine s_yes rfl rfl rfl rfl ?_; refine g_mv ?_; refine s_yes rfl rfl rfl rfl ?_; refine g_ln ?_; refine s_yes rfl rfl rfl rfl ?_; refine g_gtr ?_; refine s_pf ?_; refine s_mv ?_; refine s_no rfl rfl rfl rfl ?_; refine s_no rfl rfl rfl rfl ?_; refine s_no rfl rfl rfl rfl ?_; refine s_pt ?_; refine s_mv ?_; refine s_no rfl rfl rfl rfl ?_; refine s_no rfl rfl rfl rfl ?_; refine s_no rfl rfl rfl rfl ?_; refine s_no rfl rfl rfl rfl ?_; refine s_no rfl rfl rfl rfl ?_; refine s_pt ?_; refine AtR_nil ?_; refine At_cond_t rfl ?_; refine At_seq (At_region ?_))
  refine s_call x_call (awake16_calls _ (hCk K1)) ?_
  rintro _ w2 ⟨rfl, k2⟩
  refine ⟨_, rfl, ?_⟩
  (refine s_as ?_; refine AtR_nil ?_)
  refine At_ret1 Tryd.func5 rfl (by conv => lhs; whnf) ?_
  exact ⟨rfl, Kp.below (K1.trans k2)⟩
 by_cases hs2 : 100 < other.length
 ·skip
  (refine s_nt ?_; refine s_mv ?_; refine s_yes rfl rfl rfl rfl ?_; refine g_mv ?_; refine s_yes rfl rfl rfl rfl ?_; refine g_ln ?_; refine s_yes rfl rfl rfl rfl ?_; refine g_gtr ?_; refine s_pf ?_; refine s_mv ?_; refine s_yes rfl rfl rfl rfl ?_; refine g_mv ?_; refine s_yes rfl rfl rfl rfl ?_; refine g_ln ?_; refine s_yes rfl rfl rfl rfl ?_; refine g_gtr ?_; refine s_pf ?_; refine s_mv ?_; refine s_no rfl rfl rfl rfl ?_; refine s_no rfl rfl rfl rfl ?_; refine s_no rfl rfl rfl rfl ?_; refine s_no rfl rfl rfl rfl ?_; refine s_no rfl rfl rfl rfl ?_; refine s_pt ?_; refine AtR_nil ?_; refine At_cond_t rfl ?_; refine At_seq (At_region ?_))
  refine s_call x_call (awake16_calls _ (hCk K1)) ?_
  rintro _ w2 ⟨rfl, k2⟩
  refine ⟨_, rfl, ?_⟩
  (refine s_as ?_; refine AtR_nil ?_)
  refine At_ret1 Tryd.func5 rfl (by conv => lhs; whnf) ?_
  exact ⟨rfl, Kp.below (K1.trans k2)⟩
 (refine s_nt ?_; refine s_mv ?_; refine s_yes rfl rfl rfl rfl ?_; refine g_mv ?_; refine s_yes rfl rfl rfl rfl ?_; refine g_ln ?_; refine s_yes rfl rfl rfl rfl ?_; refine g_gtr ?_; refine s_pf ?_; refine s_mv ?_; refine s_yes rfl rfl rfl rfl ?_; refine g_mv ?_; refine s_yes rfl rfl rfl rfl ?_; refine g_ln ?_; refine s_yes rfl rfl rfl rfl ?_; refine g_gtr ?_; refine s_pf ?_; refine s_mv ?_; refine s_yes rfl rfl rfl rfl ?_; refine g_mv ?_)
 refine s_yes rfl rfl rfl rfl (g_val (x_conv_bs rfl (hkE K1)) ?_)
 (refine s_yes rfl rfl rfl rfl ?_; refine g_mv ?_)
 refine s_yes rfl rfl rfl rfl (g_val (x_conv_bs rfl (hoE K1)) ?_)
 skip
 by_cases hne : key = other
 ·refine s_yes rfl rfl rfl rfl (g_bool (x_eql_str rfl rfl) (decide_eq_true hne) ?_)
  (refine s_pf ?_; refine AtR_nil ?_; refine At_cond_t rfl ?_; refine At_seq (At_region ?_))
  refine s_call x_call (awake16_calls _ (hCk K1)) ?_
  rintro _ w2 ⟨rfl, k2⟩
  refine ⟨_, rfl, ?_⟩
  (refine s_as ?_; refine AtR_nil ?_)
  refine At_ret1 Tryd.func5 rfl (by conv => lhs; whnf) ?_
  exact ⟨rfl, Kp.below (K1.trans k2)⟩
 refine s_yes rfl rfl rfl rfl (g_bool (x_eql_str rfl rfl) (decide_eq_false hne) ?_)
 obtain ⟨v1, v2, v3, v4⟩ : (i.tmod 300 + 300) % 300 = (wrapN i 300 : Int) ∧ wrapN i 300 < 300 ∧ -(300 : Int) < i.tmod 300 ∧ i.tmod 300 < 300 := by
  obtain ⟨h1, h2, h3, h4⟩ : (i.tmod 300 + 300).tmod 300 = (wrapN i 300 : Int) ∧ wrapN i 300 < 300 ∧ -(300 : Int) < i.tmod 300 ∧ i.tmod 300 < 300 := wrapN_val (m := 300) (by omega)
  exact ⟨by rw [← h1, rem_nn (a := i.tmod 300 + 300) (by omega)], h2, h3, h4⟩
 generalize wrapN i 300 = k at v1 v2
 (refine s_pf ?_; refine AtR_nil ?_; refine At_cond_f rfl ?_; refine At_skip (At_seq (At_region ?_)); refine s_mv ?_)
 refine s_val (x_rem rfl rfl (by omega)) ?_
 (refine s_ad ?_; refine s_rm ?_; refine s_as ?_; refine AtR_nil (At_seq ?_); refine At_region ?_)
 rw [v1]
 skip
 refine s_val (x_build rfl (built51 20)) ?_
 refine AtR_go rfl (AtG_box rfl fun sp w2 hsp e2 => ?_)
 have SP : Blk w2 sp 51 (0, 0) [.slice none 0 0, .slice none 0 0, .int .i64 ((20 : Nat) : Int)] := e2.blk
 have k2 : Kp No w1 w2 := e2.kp (.inr (by omega))
 have hst2 := st_new SP (by omega)
 clear e2
 have lsp := SP.lt
 have z1 := K1.size
 have z2 := k2.size
 have K2 := K1.trans k2
 obtain ⟨nB, hnB⟩ : ∃ l : List UInt8, l = [110, 97, 109, 101] := ⟨_, rfl⟩
 obtain ⟨kB, hkB⟩ : ∃ l : List UInt8, l = [107, 101, 121] := ⟨_, rfl⟩
 have lnB : nB.length = 4 := by rw [hnB]; rfl
 have lkB : kB.length = 3 := by rw [hkB]; rfl
 (refine s_as ?_; refine AtR_nil (At_seq (At_region ?_)); refine s_mv ?_; refine s_mv ?_)
 refine AtR_go rfl (AtG_buildSlice1 (ops := [_, _, _, _]) rfl rfl (by omega) rfl rfl rfl fun bl1 wl1 hbl1 el1 => ?_)
 have BL1 : Blk wl1 bl1 5 (0, 0) (ints .u8 (bs8 nB)) := by rw [hnB]; exact el1.blk
 have kl1 : Kp No w2 wl1 := el1.kp (.inr (by omega))
 clear el1
 refine AtR_go rfl (G_val (r_conv_same rfl BL1) ?_)
 rintro _ wm1 ⟨rfl, ⟨fl1, BM1⟩, km1⟩
 have kn1 : Kp No w2 wm1 := kl1.trans' km1 (by rintro j rfl; right; omega)
 have zn1 := kn1.size
 have SL1 : SlE wm1 .u8 (some ⟨bl1, 0, none⟩) nB.length nB.length (bs8 nB) (fun _ => True) := by
  have h := (BM1.sl (m := nB.length) (by simp) (by omega)).e (D := fun _ => True) fun _ _ => trivial
  simpa using h
 have KM1 := K2.trans kn1
 have hG1 := grove_wood sp key nB ak (some ⟨bl1, 0, none⟩) cap nB.length wm1 (hst2.kpn kn1) (hCk KM1) (by omega) (hkE KM1) (none0 hk) SL1 (fun h => by cases h) ⟨by omega, by omega⟩
 rw [lnB] at hG1
 skip
 refine s_call x_call hG1 ?_
 rintro _ wg1 ⟨gg, bog, Dgg, rfl, hWg, hDg, kg1⟩
 refine ⟨_, rfl, ?_⟩
 have zg1 := kg1.size
 have kx1 := kn1.trans kg1
 have KG1 := KM1.trans kg1
 clear hG1
 (refine s_mv ?_)
 refine AtR_go rfl (AtG_buildSlice1 (ops := [_, _, _]) rfl rfl (by omega) rfl rfl rfl fun bl2 wl2 hbl2 el2 => ?_)
 have BL2 : Blk wl2 bl2 5 (0, 0) (ints .u8 (bs8 kB)) := by rw [hkB]; exact el2.blk
 have kl2 : Kp No wg1 wl2 := el2.kp (.inr (by omega))
 clear el2
 refine AtR_go rfl (G_val (r_conv_same rfl BL2) ?_)
 rintro _ wm2 ⟨rfl, ⟨fl2, BM2⟩, km2⟩
 have kn2 : Kp No wg1 wm2 := kl2.trans' km2 (by rintro j rfl; right; omega)
 have zn2 := kn2.size
 have SL2 : SlE wm2 .u8 (some ⟨bl2, 0, none⟩) kB.length kB.length (bs8 kB) (fun _ => True) := by
  have h := (BM2.sl (m := kB.length) (by simp) (by omega)).e (D := fun _ => True) fun _ _ => trivial
  simpa using h
 have KM2 := KG1.trans kn2
 have hG2 := grove_wood sp kB other (some ⟨bl2, 0, none⟩) ao kB.length cap2 wm2 (hWg.stt.kpn kn2) (hCk KM2) (by omega) SL2 (fun h => by cases h) (hoE KM2) (none0 ho) ⟨by omega, by omega⟩
 rw [lkB] at hG2
 (refine s_mv ?_)
 refine s_call x_call hG2 ?_
 rintro _ wg2 ⟨gh, boh, Dgh, rfl, hWh, hDh, kg2⟩
 refine ⟨_, rfl, ?_⟩
 have zg2 := kg2.size
 have kx2 := kn2.trans kg2
 have KG2 := KM2.trans kg2
 clear hG2
 replace hWg := hWg.kpn kx2
 (refine s_as ?_; refine s_as ?_; refine AtR_nil (At_seq (At_region ?_)); refine s_mv ?_; refine s_mv ?_)
 refine AtR_go rfl (AtG_buildSlice1 (ops := [_, _, _, _]) rfl rfl (by omega) rfl rfl rfl fun bl3 wl3 hbl3 el3 => ?_)
 have BL3 : Blk wl3 bl3 5 (0, 0) (ints .u8 (bs8 nB)) := by rw [hnB]; exact el3.blk
 have kl3 : Kp No wg2 wl3 := el3.kp (.inr (by omega))
 clear el3
 refine AtR_go rfl (G_val (r_conv_same rfl BL3) ?_)
 rintro _ wm3 ⟨rfl, ⟨fl3, BM3⟩, km3⟩
 have kn3 : Kp No wg2 wm3 := kl3.trans' km3 (by rintro j rfl; right; omega)
 have zn3 := kn3.size
 have SL3 : SlE wm3 .u8 (some ⟨bl3, 0, none⟩) nB.length nB.length (bs8 nB) (fun _ => True) := by
  have h := (BM3.sl (m := nB.length) (by simp) (by omega)).e (D := fun _ => True) fun _ _ => trivial
  simpa using h
 have KM3 := KG2.trans kn3
 have hG3 := grove_wood sp other nB ao (some ⟨bl3, 0, none⟩) cap2 nB.length wm3 (hWh.stt.kpn kn3) (hCk KM3) (by omega) (hoE KM3) (none0 ho) SL3 (fun h => by cases h) ⟨by omega, by omega⟩
 rw [lnB] at hG3
 skip
 refine s_call x_call hG3 ?_
 rintro _ wg3 ⟨ga, boa, Dga, rfl, hWa, hDa, kg3⟩
 refine ⟨_, rfl, ?_⟩
 have zg3 := kg3.size
 have kx3 := kn3.trans kg3
 have KG3 := KM3.trans kg3
 clear hG3
 replace hWg := hWg.kpn kx3
 replace hWh := hWh.kpn kx3
 (refine s_mv ?_)
 refine AtR_go rfl (AtG_buildSlice1 (ops := [_, _, _]) rfl rfl (by omega) rfl rfl rfl fun bl4 wl4 hbl4 el4 => ?_)
 have BL4 : Blk wl4 bl4 5 (0, 0) (ints .u8 (bs8 kB)) := by rw [hkB]; exact el4.blk
 have kl4 : Kp No wg3 wl4 := el4.kp (.inr (by omega))
 clear el4
 refine AtR_go rfl (G_val (r_conv_same rfl BL4) ?_)
 rintro _ wm4 ⟨rfl, ⟨fl4, BM4⟩, km4⟩
 have kn4 : Kp No wg3 wm4 := kl4.trans' km4 (by rintro j rfl; right; omega)
 have zn4 := kn4.size
 have SL4 : SlE wm4 .u8 (some ⟨bl4, 0, none⟩) kB.length kB.length (bs8 kB) (fun _ => True) := by
  have h := (BM4.sl (m := kB.length) (by simp) (by omega)).e (D := fun _ => True) fun _ _ => trivial
  simpa using h
 have KM4 := KG3.trans kn4
 have hG4 := grove_wood sp kB key (some ⟨bl4, 0, none⟩) ak kB.length cap wm4 (hWa.stt.kpn kn4) (hCk KM4) (by omega) SL4 (fun h => by cases h) (hkE KM4) (none0 hk) ⟨by omega, by omega⟩
 rw [lkB] at hG4
 (refine s_mv ?_)
 refine s_call x_call hG4 ?_
 rintro _ wg4 ⟨gb, bob, Dgb, rfl, hWb, hDb, kg4⟩
 refine ⟨_, rfl, ?_⟩
 have zg4 := kg4.size
 have kx4 := kn4.trans kg4
 have KG4 := KM4.trans kg4
 clear hG4
 replace hWg := hWg.kpn kx4
 replace hWh := hWh.kpn kx4
 replace hWa := hWa.kpn kx4
 clear hst2 SP
 have hk5 : k < roomN 5 := by
   have : roomN 5 = 537824 := rfl
   omega
 (refine s_as ?_; refine s_as ?_; refine AtR_nil (At_seq (At_seq (At_region ?_))); refine s_mv ?_; refine s_eqlp ?_; refine s_mv ?_; refine s_yes rfl rfl rfl rfl ?_; refine g_mv ?_; refine s_yes rfl rfl rfl rfl ?_; refine g_eqlp ?_; refine s_pf ?_; refine s_mv ?_; refine s_yes rfl rfl rfl rfl ?_; refine g_mv ?_; refine s_yes rfl rfl rfl rfl ?_; refine g_eqlp ?_; refine s_pf ?_; refine s_mv ?_; refine s_yes rfl rfl rfl rfl ?_; refine g_mv ?_; refine s_yes rfl rfl rfl rfl ?_; refine g_eqlp ?_; refine s_pf ?_; refine AtR_nil ?_; refine At_cond_f rfl ?_; refine At_skip (At_seq (At_region ?_)); refine s_mv ?_)
 refine s_val (x_build (by first | rfl | exact rfl) built40_nil) ?_
 (refine s_mv ?_)
 refine s_call x_call (block_calls 1 _) ?_
 rintro _ wb1 ⟨bb1, rfl, hob1, hbb1, kb1⟩
 refine ⟨_, rfl, ?_⟩
 have hsb1 : SlE wb1 .u8 (some ⟨bb1, 0, none⟩) 512 512 (bs8 (blockB 1)) (fun j => j = bb1) := hob1.sl.e fun j hj => by simpa [blkOf] using hj.symm
 have lbb1 : bb1 < wb1.heap.size := hob1.lt bb1 rfl
 have zb1 := kb1.size
 replace hWg := hWg.kpn kb1
 replace hWh := hWh.kpn kb1
 replace hWa := hWa.kpn kb1
 replace hWb := hWb.kpn kb1
 have hdl1 := hWg.stt.dlt
 skip
 refine s_call x_call (Put_wood gg sp bog key nB (St.new 20) Pr.zero 0 k (blockB 1) _ 512 _ hWg zero_wf (by omega) hk5 (blockB_length 1) hsb1 (by rintro j rfl; exact ⟨fun hd => by omega, lbb1⟩) (by simp [St.new])) ?_
 obtain ⟨hc1, S1, hT1, _, hH1, hcn1, hkp1, hbl1, hrm1⟩ := put_more (key := key) (name := nB) (st := (St.new 20)) (r := Pr.zero) (d := 0) (i := k) (b := blockB 1) (f := fun _ => none) (S := []) (X := []) (tree_nil _ _ _) (.inl rfl) (held_new 20) hk5 (by simp [St.new]) (by simp [St.new, St.count])
 have hpv1 : putV key nB (St.new 20) Pr.zero 0 k (blockB 1) = trC (putT key nB (St.new 20) Pr.zero 0 k (blockB 1)).1.1 ((putT key nB (St.new 20) Pr.zero 0 k (blockB 1)).1.2.1 : Int) := by unfold putV; rw [if_pos hc1]
 rw [hpv1, hc1]
 clear hpv1 hc1
 generalize putS key nB (St.new 20) Pr.zero 0 k (blockB 1) = st1 at *
 generalize putT key nB (St.new 20) Pr.zero 0 k (blockB 1) = R1 at *
 obtain ⟨⟨r1, d1, cd1⟩, ch1⟩ := R1
 simp only at hT1 ⊢
 rintro _ wp1 ⟨rfl, Dp1, hWp1, hDp1, kp1⟩
 refine ⟨_, rfl, ?_⟩
 have zp1 := kp1.size
 have hr1 : r1.wf := hT1.wf hWp1.stt.few.1
 have hr341 := trC_length hr1 (d1 : Int)
 replace hWg := hWg.other hWp1 hDp1 kp1
 replace hWh := hWh.other hWp1 hDp1 kp1
 replace hWa := hWa.other hWp1 hDp1 kp1
 replace hWb := hWb.other hWp1 hDp1 kp1
 have KP1 : Kp No W wp1 := (KG4.trans kb1).trans' kp1 (by rintro j rfl; right; omega)
 (refine s_mv ?_; refine s_ex ?_; refine s_ex ?_)
 refine AtR_go rfl (AtG_alloc fun b13 wa1 hba1 ea1 => ?_)
 refine AtR_go rfl (G_skip (r_store_all (s := 34) (vs := trC r1 (d1 : Int)) rfl rfl ea1.blk hr341 rfl (trC_one _ _)) fun wc1 ec1 => ?_)
 have B13 : Blk wc1 b13 40 (0, 0) (trC r1 (d1 : Int)) := ec1.blk
 have kc1 : Kp No wp1 wc1 := (ea1.kp (S := No) (.inr (by omega))).trans' (ec1.kp (S := fun j => j = b13) (.inl rfl)) (by rintro j rfl; right; omega)
 have zc1 := kc1.size
 have KC1 := KP1.trans kc1
 clear ea1 ec1
 replace hWg := hWg.kpn kc1
 replace hWh := hWh.kpn kc1
 replace hWa := hWa.kpn kc1
 replace hWb := hWb.kpn kc1
 have hS1 := hT1.one
 have hd1 := hT1.le
 have hk1 := hT1.in_room
 simp only [List.append_nil] at hH1
 have hcnt1 := hH1.count
 have hrm1' : st1.room = 20 := hrm1
 have hbl1' : st1.b.length ≤ 12 := by simpa [St.new] using hbl1
 have l13 := B13.lt
 have hD1w : ∀ j, Dp1 j → W.heap.size ≤ j := fun j hj => by
  rcases hDp1 j hj with h | h
  ·omega
  ·omega
 have n13 : ¬ Dp1 b13 := fun hd => by have := hWp1.stt.dlt _ hd; omega
 (refine s_as ?_; refine AtR_nil (At_seq (At_region ?_)); refine s_mv ?_)
 refine s_val (x_build (by first | rfl | exact rfl) built40_nil) ?_
 (refine s_mv ?_)
 refine s_call x_call (block_calls 1 _) ?_
 rintro _ wb2 ⟨bb2, rfl, hob2, hbb2, kb2⟩
 refine ⟨_, rfl, ?_⟩
 have hsb2 : SlE wb2 .u8 (some ⟨bb2, 0, none⟩) 512 512 (bs8 (blockB 1)) (fun j => j = bb2) := hob2.sl.e fun j hj => by simpa [blkOf] using hj.symm
 have lbb2 : bb2 < wb2.heap.size := hob2.lt bb2 rfl
 have zb2 := kb2.size
 replace hWg := hWg.kpn kb2
 replace hWh := hWh.kpn kb2
 replace hWa := hWa.kpn kb2
 replace hWb := hWb.kpn kb2
 have hdl2 := hWh.stt.dlt
 skip
 refine s_call x_call (Put_wood gh sp boh kB other st1 Pr.zero 0 k (blockB 1) _ 512 _ hWh zero_wf (by omega) hk5 (blockB_length 1) hsb2 (by rintro j rfl; exact ⟨fun hd => by have := hWp1.stt.dlt _ hd; omega, lbb2⟩) (by omega)) ?_
 obtain ⟨hc2, S2, hT2, _, hH2, hcn2, hkp2, hbl2, hrm2⟩ := put_more (key := kB) (name := other) (st := st1) (r := Pr.zero) (d := 0) (i := k) (b := blockB 1) (f := fun _ => none) (S := []) (X := S1) (tree_nil _ _ _) (.inl rfl) (by simpa using hH1) hk5 (by omega) (by omega)
 have hpv2 : putV kB other st1 Pr.zero 0 k (blockB 1) = trC (putT kB other st1 Pr.zero 0 k (blockB 1)).1.1 ((putT kB other st1 Pr.zero 0 k (blockB 1)).1.2.1 : Int) := by unfold putV; rw [if_pos hc2]
 rw [hpv2, hc2]
 clear hpv2 hc2
 generalize putS kB other st1 Pr.zero 0 k (blockB 1) = st2 at *
 generalize putT kB other st1 Pr.zero 0 k (blockB 1) = R2 at *
 obtain ⟨⟨r2, d2, cd2⟩, ch2⟩ := R2
 simp only at hT2 ⊢
 rintro _ wp2 ⟨rfl, Dp2, hWp2, hDp2, kp2⟩
 refine ⟨_, rfl, ?_⟩
 have zp2 := kp2.size
 have hr2 : r2.wf := hT2.wf hWp2.stt.few.1
 have hr342 := trC_length hr2 (d2 : Int)
 replace hWg := hWg.other hWp2 hDp2 kp2
 replace hWh := hWh.other hWp2 hDp2 kp2
 replace hWa := hWa.other hWp2 hDp2 kp2
 replace hWb := hWb.other hWp2 hDp2 kp2
 have KP2 : Kp No W wp2 := (KC1.trans kb2).trans' kp2 (fun j hj => .inr (hD1w j hj))
 (refine s_mv ?_; refine s_ex ?_; refine s_ex ?_)
 refine AtR_go rfl (AtG_alloc fun b15 wa2 hba2 ea2 => ?_)
 refine AtR_go rfl (G_skip (r_store_all (s := 34) (vs := trC r2 (d2 : Int)) rfl rfl ea2.blk hr342 rfl (trC_one _ _)) fun wc2 ec2 => ?_)
 have B15 : Blk wc2 b15 40 (0, 0) (trC r2 (d2 : Int)) := ec2.blk
 have kc2 : Kp No wp2 wc2 := (ea2.kp (S := No) (.inr (by omega))).trans' (ec2.kp (S := fun j => j = b15) (.inl rfl)) (by rintro j rfl; right; omega)
 have zc2 := kc2.size
 have KC2 := KP2.trans kc2
 clear ea2 ec2
 replace hWg := hWg.kpn kc2
 replace hWh := hWh.kpn kc2
 replace hWa := hWa.kpn kc2
 replace hWb := hWb.kpn kc2
 replace B13 := ((B13.kp kb2 fun h => h).kp kp2 n13).kp kc2 fun h => h
 have hS2 := hT2.one
 have hk2 := hT2.in_room
 have hd2 := hT2.le
 obtain ⟨r10, r1S, x1, hx1, hm1⟩ := hT1.rep.root (Nat.zero_le k) (by omega) (by simp [Mt.upd])
 obtain ⟨r20, _, x2, hx2, hm2⟩ := hT2.rep.root (Nat.zero_le k) (by omega) (by simp [Mt.upd])
 have hx1' := hkp2 _ r1S _ hx1
 obtain ⟨q1, q2, q3⟩ := at_get hx1'
 obtain ⟨t1, t2, t3⟩ := at_get hx2
 have hx1l : x1.length = 512 := hWh.stt.all _ (at_mem hx1')
 have hx2l : x2.length = 512 := hWh.stt.all _ (at_mem hx2)
 have hdeep1 := trC_deep hr1 (d1 : Int)
 have hdeep2 := trC_deep hr2 (d2 : Int)
 have hbig := hWh.stt.few.1
 obtain ⟨ab, cb, ai, ci, SPx, hsegx, labx⟩ := hWh.stt.sec2 (by omega)
 have hcb := SPx.lt
 have hBE : ∀ {w : World} {b : Nat} {l : List UInt8}, (∃ fz, Blk w b 5 fz (ints .u8 (bs8 l))) → l.length ≤ 100 → SlE w .u8 (some ⟨b, 0, none⟩) l.length l.length (bs8 l) (fun _ => True) := fun {w b l} hB hl => by
  obtain ⟨fz, hB⟩ := hB
  have h := (hB.sl (m := l.length) (by simp) (by omega)).e (D := fun _ => True) fun _ _ => trivial
  simpa using h
 (refine s_as ?_; refine AtR_nil (At_seq (At_seq (At_region ?_))); refine s_mv ?_; refine s_neq ?_; refine s_mv ?_; refine s_yes rfl rfl rfl rfl ?_; refine g_mv ?_; refine s_yes rfl rfl rfl rfl ?_; refine g_neq ?_; refine s_pf ?_; refine AtR_nil ?_; refine At_cond_f rfl ?_; refine At_skip (At_seq ?_); refine At_seq ?_)
 have kd := Kp.drew (S := No) (w := wc2)
 refine At_draw (fun w' => Kp No wc2.drew w') rfl ?_
 generalize wc2.drew = w0 at kd ⊢
 have KD := KC2.trans kd
 have B13w := B13.kp kd fun h => h
 have B15w := B15.kp kd fun h => h
 have SPw := SPx.kp kd fun h => h
 have hsegw := hsegx.kp kd (fun h => h) labx
 have lab := Nat.lt_of_lt_of_le labx kd.size
 have h1w : 1 < w0.heap.size := by have := KD.size; omega
 have hS : Kp No w0 w0 := Kp.refl _ _
 (apply AtH_take 0 rfl (by decide +kernel) (by exact rfl); (focus (intro wx hx; skip; exact x_move (by conv => lhs; whnf))); (focus (exact hS)))
 (apply AtH_take 3 rfl (by decide +kernel) (by exact rfl); (focus (intro wx hx; skip; exact x_fieldAddrN rfl (by first | exact Nat.zero_add _ | exact Nat.add_zero _ | (simp only [Nat.reduceAdd] <;> rfl) | exact rfl))); (focus (exact hS)))
 (apply AtH_take 6 rfl (by decide +kernel) (by exact rfl); (focus (intro wx hx; skip; exact x_move (by conv => lhs; whnf))); (focus (exact hS)))
 (apply AtH_take 7 rfl (by decide +kernel) (by exact rfl); (focus (intro wx hx; skip; exact x_nilCheck rfl)); (focus (exact hS)))
 (apply AtH_take 8 rfl (by decide +kernel) (by exact rfl); (focus (intro wx hx; skip; exact x_fieldAddrN rfl (by first | exact Nat.zero_add _ | exact Nat.add_zero _ | (simp only [Nat.reduceAdd] <;> rfl) | exact rfl))); (focus (exact hS)))
 (apply AtH_take 10 rfl (by decide +kernel) (by exact rfl); (focus (intro wx hx; skip; exact x_fieldAddrN rfl (by first | exact Nat.zero_add _ | exact Nat.add_zero _ | (simp only [Nat.reduceAdd] <;> rfl) | exact rfl))); (focus (exact hS)))
 (apply AtH_take 11 rfl (by decide +kernel) (by exact rfl); (focus (intro wx hx; skip; exact x_fieldAddrN rfl (by first | exact Nat.zero_add _ | exact Nat.add_zero _ | (simp only [Nat.reduceAdd] <;> rfl) | exact rfl))); (focus (exact hS)))
 (apply AtH_take 17 rfl (by decide +kernel) (by exact rfl); (focus (intro wx hx; skip; exact x_move (by conv => lhs; whnf))); (focus (exact hS)))
 (apply AtH_take 20 rfl (by decide +kernel) (by exact rfl); (focus (intro wx hx; skip; exact x_fieldAddrN rfl (by first | exact Nat.zero_add _ | exact Nat.add_zero _ | (simp only [Nat.reduceAdd] <;> rfl) | exact rfl))); (focus (exact hS)))
 (apply AtH_take 23 rfl (by decide +kernel) (by exact rfl); (focus (intro wx hx; skip; exact x_move (by conv => lhs; whnf))); (focus (exact hS)))
 (apply AtH_take 24 rfl (by decide +kernel) (by exact rfl); (focus (intro wx hx; skip; exact x_nilCheck rfl)); (focus (exact hS)))
 (apply AtH_take 25 rfl (by decide +kernel) (by exact rfl); (focus (intro wx hx; skip; exact x_fieldAddrN rfl (by first | exact Nat.zero_add _ | exact Nat.add_zero _ | (simp only [Nat.reduceAdd] <;> rfl) | exact rfl))); (focus (exact hS)))
 (apply AtH_take 27 rfl (by decide +kernel) (by exact rfl); (focus (intro wx hx; skip; exact x_fieldAddrN rfl (by first | exact Nat.zero_add _ | exact Nat.add_zero _ | (simp only [Nat.reduceAdd] <;> rfl) | exact rfl))); (focus (exact hS)))
 (apply AtH_take 28 rfl (by decide +kernel) (by exact rfl); (focus (intro wx hx; skip; exact x_fieldAddrN rfl (by first | exact Nat.zero_add _ | exact Nat.add_zero _ | (simp only [Nat.reduceAdd] <;> rfl) | exact rfl))); (focus (exact hS)))
 refine AtH_take 4 rfl (by decide +kernel) (by exact rfl) (fun wx hx => x_load1 rfl (B13w.kp hx fun h => h) hdeep1) hS ?_
 refine AtH_take 5 rfl (by decide +kernel) (by exact rfl) (fun wx hx => x_build rfl (built58 (d1 : Int) 0)) hS ?_
 refine AtH_take 9 rfl (by decide +kernel) (by exact rfl) (fun wx hx => x_load1 rfl (SPw.kp hx fun h => h) rfl) hS ?_
 refine AtH_take 12 rfl (by decide +kernel) (by exact rfl) (fun wx hx => x_load1 rfl (B13w.kp hx fun h => h) (show (trC r1 (d1 : Int))[0]? = some (.int .i64 (r1.sec : Int)) from rfl)) hS ?_
 refine AtH_take 13 rfl (by decide +kernel) (by exact rfl) (fun wx hx => x_sub64 rfl rfl (by omega) (by omega)) hS ?_
 refine AtH_take 14 rfl (by decide +kernel) (by exact rfl) (fun wx hx => x_indexAddr (s := 1) rfl rfl (by omega) (by omega)) hS ?_
 refine AtH_take 15 rfl (by decide +kernel) (by exact rfl) (fun wx hx => x_load_seg (off := 0) (j := r1.sec - 1) (by first | rfl | exact congrArg (fun o => Value.pointer (some ⟨ab, o, none⟩)) (by omega)) (hsegw.kp hx (fun h => h) lab) q1) hS ?_
 refine AtH_take 21 rfl (by decide +kernel) (by exact rfl) (fun wx hx => x_load1 rfl (B13w.kp hx fun h => h) hdeep1) hS ?_
 refine AtH_take 22 rfl (by decide +kernel) (by exact rfl) (fun wx hx => x_build rfl (built58 (d1 : Int) 0)) hS ?_
 refine AtH_take 26 rfl (by decide +kernel) (by exact rfl) (fun wx hx => x_load1 rfl (SPw.kp hx fun h => h) rfl) hS ?_
 refine AtH_take 29 rfl (by decide +kernel) (by exact rfl) (fun wx hx => x_load1 rfl (B13w.kp hx fun h => h) (show (trC r1 (d1 : Int))[0]? = some (.int .i64 (r1.sec : Int)) from rfl)) hS ?_
 refine AtH_take 30 rfl (by decide +kernel) (by exact rfl) (fun wx hx => x_sub64 rfl rfl (by omega) (by omega)) hS ?_
 refine AtH_take 31 rfl (by decide +kernel) (by exact rfl) (fun wx hx => x_indexAddr (s := 1) rfl rfl (by omega) (by omega)) hS ?_
 refine AtH_take 32 rfl (by decide +kernel) (by exact rfl) (fun wx hx => x_load_seg (off := 0) (j := r1.sec - 1) (by first | rfl | exact congrArg (fun o => Value.pointer (some ⟨ab, o, none⟩)) (by omega)) (hsegw.kp hx (fun h => h) lab) q1) hS ?_
 refine weave_mac w0 ((103, .slice ak key.length cap) :: (108, .agg (spC d1 0).toArray) :: (118, strV x1) :: (120, .slice ao other.length cap2) :: (125, .agg (spC d1 0).toArray) :: (135, strV x1) :: nmV ak ao key.length other.length cap cap2 k sp ga gb b13 b15) 1 2 16 18 19 nB nB (strV (macB key nB d1 0 x1)) (osA := [_, _, _, _]) (osB := [_, _, _, _]) rfl rfl rfl rfl rfl rfl rfl rfl rfl rfl rfl rfl lnB.symm (fun _ => by rw [hnB]; rfl) rfl rfl lnB.symm (fun _ => by rw [hnB]; rfl) ⟨by omega, by omega⟩ (by decide +kernel) rfl ⟨by decide, by decide⟩ (by exact fun env he => ⟨rfl, rfl, rfl, rfl, rfl⟩) h1w ?_ ?_ _ (by exact ⟨rfl, rfl, rfl, rfl, rfl, rfl, rfl, rfl, rfl, rfl, rfl, rfl, rfl, rfl, trivial⟩) w0 hS
 ·intro env w b he hb2 hB kw
  rw [env_as env ((105, .slice (some ⟨b, 0, none⟩) nB.length nB.length) :: (103, .slice ak key.length cap) :: (108, .agg (spC d1 0).toArray) :: (118, strV x1) :: (120, .slice ao other.length cap2) :: (125, .agg (spC d1 0).toArray) :: (135, strV x1) :: nmV ak ao key.length other.length cap cap2 k sp ga gb b13 b15) ⟨hb2, he⟩]
  exact ⟨27, #[.slice ak key.length cap, .slice (some ⟨b, 0, none⟩) nB.length nB.length, .agg (spC d1 0).toArray, strV x1], _, x_call, macR_calls key nB d1 0 x1 ak (some ⟨b, 0, none⟩) cap nB.length w (hkE (KD.trans kw)) (hBE hB (by omega)) ⟨by omega, by omega, by omega⟩ ⟨by omega, by omega⟩, fun e w'' hh => hh⟩
 intro env w b he hv3 hb2 hB kw
 rw [env_as env ((119, strV (macB key nB d1 0 x1)) :: (122, .slice (some ⟨b, 0, none⟩) nB.length nB.length) :: (103, .slice ak key.length cap) :: (108, .agg (spC d1 0).toArray) :: (118, strV x1) :: (120, .slice ao other.length cap2) :: (125, .agg (spC d1 0).toArray) :: (135, strV x1) :: nmV ak ao key.length other.length cap cap2 k sp ga gb b13 b15) ⟨hv3, hb2, he⟩]
 refine AtH_call 33 rfl (by decide +kernel) (by exact rfl) x_call  (macR_calls other nB d1 0 x1 ao (some ⟨b, 0, none⟩) cap2 nB.length w (hoE (KD.trans kw)) (hBE hB (by omega)) ⟨by omega, by omega, by omega⟩ ⟨by omega, by omega⟩) ?_
 rintro _ w3 ⟨rfl, k3⟩
 clear hS
 have hS : Kp No w0 w3 := kw.trans k3
 refine ⟨_, rfl, hS, ?_⟩
 refine AtH_val 34 rfl (by decide +kernel) (by exact rfl) (x_eql_str rfl rfl) hS ?_
 have KE := KD.trans hS
 by_cases he1 : macB key nB d1 0 x1 = macB other nB d1 0 x1
 ·rw [decide_eq_true he1]
  (apply AtH_take 35 rfl (by decide +kernel) (by exact rfl); (focus (intro wx hx; skip; exact x_move (by conv => lhs; whnf))); (focus (exact hS)))
  refine AtH_no 36 rfl (by decide +kernel) (by exact ⟨_, _, rfl, by decide, rfl, rfl⟩) hS ?_
  refine AtH_no 37 rfl (by decide +kernel) (by exact ⟨_, _, rfl, by decide, rfl, rfl⟩) hS ?_
  refine AtH_no 38 rfl (by decide +kernel) (by exact ⟨_, _, rfl, by decide, rfl, rfl⟩) hS ?_
  refine AtH_no 39 rfl (by decide +kernel) (by exact ⟨_, _, rfl, by decide, rfl, rfl⟩) hS ?_
  refine AtH_no 40 rfl (by decide +kernel) (by exact ⟨_, _, rfl, by decide, rfl, rfl⟩) hS ?_
  refine AtH_no 41 rfl (by decide +kernel) (by exact ⟨_, _, rfl, by decide, rfl, rfl⟩) hS ?_
  refine AtH_no 42 rfl (by decide +kernel) (by exact ⟨_, _, rfl, by decide, rfl, rfl⟩) hS ?_
  refine AtH_no 43 rfl (by decide +kernel) (by exact ⟨_, _, rfl, by decide, rfl, rfl⟩) hS ?_
  refine AtH_no 44 rfl (by decide +kernel) (by exact ⟨_, _, rfl, by decide, rfl, rfl⟩) hS ?_
  refine AtH_no 45 rfl (by decide +kernel) (by exact ⟨_, _, rfl, by decide, rfl, rfl⟩) hS ?_
  refine AtH_no 46 rfl (by decide +kernel) (by exact ⟨_, _, rfl, by decide, rfl, rfl⟩) hS ?_
  refine AtH_no 47 rfl (by decide +kernel) (by exact ⟨_, _, rfl, by decide, rfl, rfl⟩) hS ?_
  refine AtH_no 48 rfl (by decide +kernel) (by exact ⟨_, _, rfl, by decide, rfl, rfl⟩) hS ?_
  refine AtH_no 49 rfl (by decide +kernel) (by exact ⟨_, _, rfl, by decide, rfl, rfl⟩) hS ?_
  refine AtH_no 50 rfl (by decide +kernel) (by exact ⟨_, _, rfl, by decide, rfl, rfl⟩) hS ?_
  refine AtH_no 51 rfl (by decide +kernel) (by exact ⟨_, _, rfl, by decide, rfl, rfl⟩) hS ?_
  refine AtH_no 52 rfl (by decide +kernel) (by exact ⟨_, _, rfl, by decide, rfl, rfl⟩) hS ?_
  refine AtH_no 53 rfl (by decide +kernel) (by exact ⟨_, _, rfl, by decide, rfl, rfl⟩) hS ?_
  refine AtH_no 54 rfl (by decide +kernel) (by exact ⟨_, _, rfl, by decide, rfl, rfl⟩) hS ?_
  refine AtH_no 55 rfl (by decide +kernel) (by exact ⟨_, _, rfl, by decide, rfl, rfl⟩) hS ?_
  refine AtH_no 56 rfl (by decide +kernel) (by exact ⟨_, _, rfl, by decide, rfl, rfl⟩) hS ?_
  refine AtH_no 57 rfl (by decide +kernel) (by exact ⟨_, _, rfl, by decide, rfl, rfl⟩) hS ?_
  refine AtH_no 58 rfl (by decide +kernel) (by exact ⟨_, _, rfl, by decide, rfl, rfl⟩) hS ?_
  refine AtH_no 59 rfl (by decide +kernel) (by exact ⟨_, _, rfl, by decide, rfl, rfl⟩) hS ?_
  refine AtH_no 60 rfl (by decide +kernel) (by exact ⟨_, _, rfl, by decide, rfl, rfl⟩) hS ?_
  refine AtH_no 61 rfl (by decide +kernel) (by exact ⟨_, _, rfl, by decide, rfl, rfl⟩) hS ?_
  refine AtH_no 62 rfl (by decide +kernel) (by exact ⟨_, _, rfl, by decide, rfl, rfl⟩) hS ?_
  refine AtH_no 63 rfl (by decide +kernel) (by exact ⟨_, _, rfl, by decide, rfl, rfl⟩) hS ?_
  refine AtH_no 64 rfl (by decide +kernel) (by exact ⟨_, _, rfl, by decide, rfl, rfl⟩) hS ?_
  refine AtH_no 65 rfl (by decide +kernel) (by exact ⟨_, _, rfl, by decide, rfl, rfl⟩) hS ?_
  refine AtH_no 66 rfl (by decide +kernel) (by exact ⟨_, _, rfl, by decide, rfl, rfl⟩) hS ?_
  refine AtH_no 67 rfl (by decide +kernel) (by exact ⟨_, _, rfl, by decide, rfl, rfl⟩) hS ?_
  refine AtH_no 68 rfl (by decide +kernel) (by exact ⟨_, _, rfl, by decide, rfl, rfl⟩) hS ?_
  refine AtH_no 69 rfl (by decide +kernel) (by exact ⟨_, _, rfl, by decide, rfl, rfl⟩) hS ?_
  refine AtH_no 70 rfl (by decide +kernel) (by exact ⟨_, _, rfl, by decide, rfl, rfl⟩) hS ?_
  (apply AtH_take 71 rfl (by decide +kernel) (by exact rfl); (focus (intro wx hx; skip; exact x_pick_t rfl (by conv => lhs; whnf))); (focus (exact hS)))
  refine AtH_done (by decide +kernel) ?_
  (refine At_cond_t rfl ?_; refine At_seq (At_region ?_); refine s_as ?_; refine AtR_nil ?_)
  refine At_ret1 Tryd.func5 rfl (by conv => lhs; whnf) ?_
  exact ⟨rfl, KE.below⟩
 rw [decide_eq_false he1]
 (apply AtH_take 35 rfl (by decide +kernel) (by exact rfl); (focus (intro wx hx; skip; exact x_move (by conv => lhs; whnf))); (focus (exact hS)))
 (apply AtH_take 38 rfl (by decide +kernel) (by exact ⟨_, _, rfl, by decide, rfl, rfl⟩); (focus (intro wx hx; skip; exact x_move (by conv => lhs; whnf))); (focus (exact hS)))
 (apply AtH_take 39 rfl (by decide +kernel) (by exact ⟨_, _, rfl, by decide, rfl, rfl⟩); (focus (intro wx hx; skip; exact x_fieldAddrN rfl (by first | exact Nat.zero_add _ | exact Nat.add_zero _ | (simp only [Nat.reduceAdd] <;> rfl) | exact rfl))); (focus (exact hS)))
 (apply AtH_take 42 rfl (by decide +kernel) (by exact ⟨_, _, rfl, by decide, rfl, rfl⟩); (focus (intro wx hx; skip; exact x_move (by conv => lhs; whnf))); (focus (exact hS)))
 (apply AtH_take 43 rfl (by decide +kernel) (by exact ⟨_, _, rfl, by decide, rfl, rfl⟩); (focus (intro wx hx; skip; exact x_nilCheck rfl)); (focus (exact hS)))
 (apply AtH_take 44 rfl (by decide +kernel) (by exact ⟨_, _, rfl, by decide, rfl, rfl⟩); (focus (intro wx hx; skip; exact x_fieldAddrN rfl (by first | exact Nat.zero_add _ | exact Nat.add_zero _ | (simp only [Nat.reduceAdd] <;> rfl) | exact rfl))); (focus (exact hS)))
 (apply AtH_take 46 rfl (by decide +kernel) (by exact ⟨_, _, rfl, by decide, rfl, rfl⟩); (focus (intro wx hx; skip; exact x_fieldAddrN rfl (by first | exact Nat.zero_add _ | exact Nat.add_zero _ | (simp only [Nat.reduceAdd] <;> rfl) | exact rfl))); (focus (exact hS)))
 (apply AtH_take 47 rfl (by decide +kernel) (by exact ⟨_, _, rfl, by decide, rfl, rfl⟩); (focus (intro wx hx; skip; exact x_fieldAddrN rfl (by first | exact Nat.zero_add _ | exact Nat.add_zero _ | (simp only [Nat.reduceAdd] <;> rfl) | exact rfl))); (focus (exact hS)))
 (apply AtH_take 55 rfl (by decide +kernel) (by exact ⟨_, _, rfl, by decide, rfl, rfl⟩); (focus (intro wx hx; skip; exact x_move (by conv => lhs; whnf))); (focus (exact hS)))
 (apply AtH_take 56 rfl (by decide +kernel) (by exact ⟨_, _, rfl, by decide, rfl, rfl⟩); (focus (intro wx hx; skip; exact x_fieldAddrN rfl (by first | exact Nat.zero_add _ | exact Nat.add_zero _ | (simp only [Nat.reduceAdd] <;> rfl) | exact rfl))); (focus (exact hS)))
 (apply AtH_take 59 rfl (by decide +kernel) (by exact ⟨_, _, rfl, by decide, rfl, rfl⟩); (focus (intro wx hx; skip; exact x_move (by conv => lhs; whnf))); (focus (exact hS)))
 (apply AtH_take 60 rfl (by decide +kernel) (by exact ⟨_, _, rfl, by decide, rfl, rfl⟩); (focus (intro wx hx; skip; exact x_nilCheck rfl)); (focus (exact hS)))
 (apply AtH_take 61 rfl (by decide +kernel) (by exact ⟨_, _, rfl, by decide, rfl, rfl⟩); (focus (intro wx hx; skip; exact x_fieldAddrN rfl (by first | exact Nat.zero_add _ | exact Nat.add_zero _ | (simp only [Nat.reduceAdd] <;> rfl) | exact rfl))); (focus (exact hS)))
 (apply AtH_take 63 rfl (by decide +kernel) (by exact ⟨_, _, rfl, by decide, rfl, rfl⟩); (focus (intro wx hx; skip; exact x_fieldAddrN rfl (by first | exact Nat.zero_add _ | exact Nat.add_zero _ | (simp only [Nat.reduceAdd] <;> rfl) | exact rfl))); (focus (exact hS)))
 (apply AtH_take 64 rfl (by decide +kernel) (by exact ⟨_, _, rfl, by decide, rfl, rfl⟩); (focus (intro wx hx; skip; exact x_fieldAddrN rfl (by first | exact Nat.zero_add _ | exact Nat.add_zero _ | (simp only [Nat.reduceAdd] <;> rfl) | exact rfl))); (focus (exact hS)))
 refine AtH_take 40 rfl (by decide +kernel) (by exact ⟨_, _, rfl, by decide, rfl, rfl⟩) (fun wx hx => x_load1 rfl (B15w.kp hx fun h => h) hdeep2) hS ?_
 refine AtH_take 41 rfl (by decide +kernel) (by exact ⟨_, _, rfl, by decide, rfl, rfl⟩) (fun wx hx => x_build rfl (built58 (d2 : Int) 0)) hS ?_
 refine AtH_take 45 rfl (by decide +kernel) (by exact ⟨_, _, rfl, by decide, rfl, rfl⟩) (fun wx hx => x_load1 rfl (SPw.kp hx fun h => h) rfl) hS ?_
 refine AtH_take 48 rfl (by decide +kernel) (by exact ⟨_, _, rfl, by decide, rfl, rfl⟩) (fun wx hx => x_load1 rfl (B15w.kp hx fun h => h) (show (trC r2 (d2 : Int))[0]? = some (.int .i64 (r2.sec : Int)) from rfl)) hS ?_
 refine AtH_take 49 rfl (by decide +kernel) (by exact ⟨_, _, rfl, by decide, rfl, rfl⟩) (fun wx hx => x_sub64 rfl rfl (by omega) (by omega)) hS ?_
 refine AtH_take 50 rfl (by decide +kernel) (by exact ⟨_, _, rfl, by decide, rfl, rfl⟩) (fun wx hx => x_indexAddr (s := 1) rfl rfl (by omega) (by omega)) hS ?_
 refine AtH_take 51 rfl (by decide +kernel) (by exact ⟨_, _, rfl, by decide, rfl, rfl⟩) (fun wx hx => x_load_seg (off := 0) (j := r2.sec - 1) (by first | rfl | exact congrArg (fun o => Value.pointer (some ⟨ab, o, none⟩)) (by omega)) (hsegw.kp hx (fun h => h) lab) t1) hS ?_
 refine AtH_take 57 rfl (by decide +kernel) (by exact ⟨_, _, rfl, by decide, rfl, rfl⟩) (fun wx hx => x_load1 rfl (B15w.kp hx fun h => h) hdeep2) hS ?_
 refine AtH_take 58 rfl (by decide +kernel) (by exact ⟨_, _, rfl, by decide, rfl, rfl⟩) (fun wx hx => x_build rfl (built58 (d2 : Int) 0)) hS ?_
 refine AtH_take 62 rfl (by decide +kernel) (by exact ⟨_, _, rfl, by decide, rfl, rfl⟩) (fun wx hx => x_load1 rfl (SPw.kp hx fun h => h) rfl) hS ?_
 refine AtH_take 65 rfl (by decide +kernel) (by exact ⟨_, _, rfl, by decide, rfl, rfl⟩) (fun wx hx => x_load1 rfl (B15w.kp hx fun h => h) (show (trC r2 (d2 : Int))[0]? = some (.int .i64 (r2.sec : Int)) from rfl)) hS ?_
 refine AtH_take 66 rfl (by decide +kernel) (by exact ⟨_, _, rfl, by decide, rfl, rfl⟩) (fun wx hx => x_sub64 rfl rfl (by omega) (by omega)) hS ?_
 refine AtH_take 67 rfl (by decide +kernel) (by exact ⟨_, _, rfl, by decide, rfl, rfl⟩) (fun wx hx => x_indexAddr (s := 1) rfl rfl (by omega) (by omega)) hS ?_
 refine AtH_take 68 rfl (by decide +kernel) (by exact ⟨_, _, rfl, by decide, rfl, rfl⟩) (fun wx hx => x_load_seg (off := 0) (j := r2.sec - 1) (by first | rfl | exact congrArg (fun o => Value.pointer (some ⟨ab, o, none⟩)) (by omega)) (hsegw.kp hx (fun h => h) lab) t1) hS ?_
 refine weave_mac w0 ((138, .bool false) :: (141, .slice ao other.length cap2) :: (144, .agg (spC d2 0).toArray) :: (154, strV x2) :: (158, .slice ak key.length cap) :: (161, .agg (spC d2 0).toArray) :: (171, strV x2) :: nmV ak ao key.length other.length cap cap2 k sp ga gb b13 b15) 36 37 52 53 54 kB kB (strV (macB kB other d2 0 x2)) (osA := [_, _, _]) (osB := [_, _, _]) rfl rfl rfl rfl rfl rfl rfl rfl rfl rfl rfl rfl lkB.symm (fun _ => by rw [hkB]; rfl) rfl rfl lkB.symm (fun _ => by rw [hkB]; rfl) ⟨by omega, by omega⟩ (by decide +kernel) rfl ⟨by decide, by decide⟩ (by exact fun env he => ⟨⟨_, _, rfl, by decide, he.1, rfl⟩, ⟨_, _, rfl, by decide, he.1, rfl⟩, ⟨_, _, rfl, by decide, he.1, rfl⟩, ⟨_, _, rfl, by decide, he.1, rfl⟩, ⟨_, _, rfl, by decide, he.1, rfl⟩⟩) h1w ?_ ?_ _ (by exact ⟨rfl, rfl, rfl, rfl, rfl, rfl, rfl, rfl, rfl, rfl, rfl, rfl, rfl, rfl, rfl, trivial⟩) w3 hS
 ·intro env w b he hb2 hB kw
  rw [env_as env ((140, .slice (some ⟨b, 0, none⟩) kB.length kB.length) :: (138, .bool false) :: (141, .slice ao other.length cap2) :: (144, .agg (spC d2 0).toArray) :: (154, strV x2) :: (158, .slice ak key.length cap) :: (161, .agg (spC d2 0).toArray) :: (171, strV x2) :: nmV ak ao key.length other.length cap cap2 k sp ga gb b13 b15) ⟨hb2, he⟩]
  exact ⟨27, #[.slice (some ⟨b, 0, none⟩) kB.length kB.length, .slice ao other.length cap2, .agg (spC d2 0).toArray, strV x2], _, x_call, macR_calls kB other d2 0 x2 (some ⟨b, 0, none⟩) ao kB.length cap2 w (hBE hB (by omega)) (hoE (KD.trans kw)) ⟨by omega, by omega, by omega⟩ ⟨by omega, by omega⟩, fun e w'' hh => hh⟩
 intro env w4 b2 he' hv3' hb2' hB2 kw2
 rw [env_as env ((155, strV (macB kB other d2 0 x2)) :: (157, .slice (some ⟨b2, 0, none⟩) kB.length kB.length) :: (138, .bool false) :: (141, .slice ao other.length cap2) :: (144, .agg (spC d2 0).toArray) :: (154, strV x2) :: (158, .slice ak key.length cap) :: (161, .agg (spC d2 0).toArray) :: (171, strV x2) :: nmV ak ao key.length other.length cap cap2 k sp ga gb b13 b15) ⟨hv3', hb2', he'⟩]
 refine AtH_call 69 rfl (by decide +kernel) (by exact ⟨_, _, rfl, by decide, rfl, rfl⟩) x_call  (macR_calls kB key d2 0 x2 (some ⟨b2, 0, none⟩) ak kB.length cap w4 (hBE hB2 (by omega)) (hkE (KD.trans kw2)) ⟨by omega, by omega, by omega⟩ ⟨by omega, by omega⟩) ?_
 rintro _ w5 ⟨rfl, k5⟩
 clear hS
 have hS : Kp No w0 w5 := kw2.trans k5
 refine ⟨_, rfl, hS, ?_⟩
 refine AtH_val 70 rfl (by decide +kernel) (by exact ⟨_, _, rfl, by decide, rfl, rfl⟩) (x_eql_str rfl rfl) hS ?_
 have KE := KD.trans hS
 by_cases he2 : macB kB other d2 0 x2 = macB kB key d2 0 x2
 ·rw [decide_eq_true he2]
  (apply AtH_take 71 rfl (by decide +kernel) (by exact rfl); (focus (intro wx hx; skip; exact x_pick_f rfl (by conv => lhs; whnf))); (focus (exact hS)))
  refine AtH_done (by decide +kernel) ?_
  (refine At_cond_t rfl ?_; refine At_seq (At_region ?_); refine s_as ?_; refine AtR_nil ?_)
  refine At_ret1 Tryd.func5 rfl (by conv => lhs; whnf) ?_
  exact ⟨rfl, KE.below⟩
 rw [decide_eq_false he2]
 (apply AtH_take 71 rfl (by decide +kernel) (by exact rfl); (focus (intro wx hx; skip; exact x_pick_f rfl (by conv => lhs; whnf))); (focus (exact hS)))
 refine AtH_done (by decide +kernel) ?_
 have kz := kd.trans hS
 have hWa5 := hWa.kpn kz
 have hWb5 := hWb.kpn kz
 have B135 := B13.kp kz fun h => h
 have B155 := B15.kp kz fun h => h
 have hgA : getT other nB st2 r1 (d1 : Int) (k : Int) = (13, none) := getT_other r10 hx1' (fun e => he1 (by rw [hm1, e])) hd1 hk1
 have hgB : getT kB key st2 r2 (d2 : Int) (k : Int) = (13, none) := getT_other r20 hx2 (fun e => he2 (by rw [hm2, e])) hd2 hk2
 (refine At_cond_f rfl ?_; refine At_skip (At_seq (At_region ?_)); refine s_mv ?_)
 refine s_val (x_load_all rfl B135 hr341) ?_
 (refine s_mv ?_)
 refine s_call x_call (Get_calls ga sp boa other nB st2 r1 (d1 : Int) (k : Int) _ hWa5.gr hWa5.stt hr1 (by omega) (by omega)) ?_
 rw [hgA]
 rintro _ w6 ⟨k6, v6, rfl, hv6⟩
 refine ⟨_, rfl, ?_⟩
 have B156 := B155.kp k6 fun h => h
 have hWb6 := hWb5.kpn k6
 (refine s_mv ?_; refine s_ex ?_; refine s_ex ?_; refine s_as ?_; refine s_as ?_; refine AtR_nil (At_seq (At_region ?_)); refine s_mv ?_)
 refine s_val (x_load_all rfl B156 hr342) ?_
 (refine s_mv ?_)
 refine s_call x_call (Get_calls gb sp bob kB key st2 r2 (d2 : Int) (k : Int) _ hWb6.gr hWb6.stt hr2 (by omega) (by omega)) ?_
 rw [hgB]
 rintro _ w7 ⟨k7, v7, rfl, hv7⟩
 refine ⟨_, rfl, ?_⟩
 (refine s_mv ?_; refine s_ex ?_; refine s_ex ?_; refine s_as ?_; refine s_as ?_; refine AtR_nil (At_seq (At_region ?_)); refine s_mv ?_; refine s_eql ?_; refine s_mv ?_; refine s_yes rfl rfl rfl rfl ?_; refine g_mv ?_; refine s_yes rfl rfl rfl rfl ?_; refine g_eql ?_; refine s_pt ?_; refine s_as ?_; refine AtR_nil ?_)
 refine At_ret1 Tryd.func5 rfl (by conv => lhs; whnf) ?_
 exact ⟨rfl, ((KE.trans k6).trans k7).below⟩
end Go.Proofs.YtfngacepjcdlnaaDoor
namespace Go.Proofs.YtfngacepjcdlnaaDoor
open Go Go.Kx Go.Kr Go.Mt
theorem octs_all2 {xs : List Int} (h : ∀ x ∈ xs, (Lit.int .u8 x).wf = true) : ∃ l : List UInt8, xs = bs8 l := by
 refine ⟨xs.map fun x => UInt8.ofNat x.toNat, ?_⟩
 apply List.ext_getElem (by simp)
 intro i h1 h2
 have hb := wf_bounds (h _ (List.getElem_mem h1))
 have m1 : IntKind.u8.min = 0 := rfl
 have m2 : IntKind.u8.max = 255 := rfl
 rw [m1, m2] at hb
 simp only [bs8, List.map_map, List.getElem_map, Function.comp, ub]
 rw [UInt8.toNat_ofNat']
 omega
theorem names_in (W : World) (hC : ∃ fz, Blk W 1 243 fz (ints .u64 (ws kSha))) (a : Option Addr) (len cap : Nat) (z : List Int) (hk : Sl W .u8 a len cap z) (hz : ∀ x ∈ z, (Lit.int .u8 x).wf = true) (a2 : Option Addr) (len2 cap2 : Nat) (z2 : List Int) (hk2 : Sl W .u8 a2 len2 cap2 z2) (hz2 : ∀ x ∈ z2, (Lit.int .u8 x).wf = true) (i : Int) (hi : (Lit.int .i64 i).wf = true) :
  Calls Tryd.prog 5 #[.slice a len cap, .slice a2 len2 cap2, .int .i64 i] W fun e w' => e = .returned (.bool true) ∧ RowKit.Below W.heap.size W w' := by
 obtain ⟨l, rfl⟩ := octs_all2 hz
 obtain ⟨l2, rfl⟩ := octs_all2 hz2
 exact names_row W hC l a len cap hk l2 a2 len2 cap2 hk2 i (wf_i64 hi)
end Go.Proofs.YtfngacepjcdlnaaDoor
