/- MtreeSeals: what two puts come to, plainly. Own work. | Strings cut at both ends or from one on; a string's octets copied into an array. Own work. -/
import Derived.Test.YtfngacepjcdlnaaDoorQMh
import Derived.Test.YtfngacepjcdlnaaDoorQMf
set_option linter.unusedVariables false
namespace Go.Mt
open Go Go.Kx Go.Proofs.YtfngacepjcdlnaaDoor
def twoPs (r q : Pr) : List Pr := r :: q :: List.replicate 12 Pr.zero
theorem st_one {key name : List UInt8} (b : List UInt8) {room : Nat} (hr : 0 < room) :
  putT key name (St.new room) Pr.zero 0 0 b = ((⟨1, macB key name 0 0 b⟩, 0, 0), ⟨⟨[b], [true], room⟩, [1], []⟩) ∧ putS key name (St.new room) Pr.zero 0 0 b = ⟨[b], [true], room⟩ := by
 have hd : deepP key name 0 (5 - 0) 0 Pr.zero ⟨St.new room, [], []⟩ = ((Pr.zero, 0, 0), ⟨St.new room, [], []⟩) := by
  rw [show 5 - 0 = 4 + 1 from rfl, deepP, if_pos (by decide)]
 have hp : putP key name 0 0 Pr.zero 0 b ⟨St.new room, [], []⟩ = ((⟨1, macB key name 0 0 b⟩, 0), ⟨⟨[b], [true], room⟩, [1], []⟩) := by
  rw [putP, show Ch.lose ⟨St.new room, [], []⟩ Pr.zero = ⟨St.new room, [], []⟩ from rfl]
  unfold Ch.save
  rw [if_neg (by show ¬ room ≤ 0; omega)]
  rfl
 have hT : putT key name (St.new room) Pr.zero 0 0 b = ((⟨1, macB key name 0 0 b⟩, 0, 0), ⟨⟨[b], [true], room⟩, [1], []⟩) := by
  unfold putT
  rw [hd]
  simp only [if_true]
  rw [hp]
 exact ⟨hT, by unfold putS; rw [hT]; rfl⟩
theorem st_two {key name : List UInt8} (b : List UInt8) {room : Nat} (hr : 4 ≤ room) {r : Pr} (hr1 : r = ⟨1, macB key name 0 0 b⟩) :
  ∃ n1, putT key name ⟨[b], [true], room⟩ r 0 1 b = ((⟨4, macB key name 1 0 (nodeB (twoPs r ⟨3, macB key name 0 1 b⟩))⟩, 1, 0), ⟨⟨[b, n1, b, nodeB (twoPs r ⟨3, macB key name 0 1 b⟩)], [true, true, true, true], room⟩, [2, 3, 4], [2]⟩) ∧
   putS key name ⟨[b], [true], room⟩ r 0 1 b = ⟨[b, n1, b, nodeB (twoPs r ⟨3, macB key name 0 1 b⟩)], [true, false, true, true], room⟩ := by
 have hrs : r.sec = 1 := by rw [hr1]
 have hrok : r.ok := by rw [hr1]; exact ⟨macB_length key name 0 0 b, (by decide : (1 : Nat) < 4294967296), fun h => by cases h⟩
 have hne : above r ≠ zeros := fun h => by
  have := congrArg (fun l => (l.getD 0 Pr.zero).sec) h
  simp [above, zeros, hrs, Pr.zero, List.replicate] at this
 have hne2 : ∀ q : Pr, twoPs r q ≠ zeros := fun q h => by
  have := congrArg (fun l => (l.getD 0 Pr.zero).sec) h
  simp [twoPs, zeros, hrs, Pr.zero, List.replicate] at this
 have hn1 : Ch.node key name ⟨⟨[b], [true], room⟩, [], []⟩ 1 0 (above r) = ((⟨2, macB key name 1 0 (nodeB (above r))⟩, 0), ⟨⟨[b, nodeB (above r)], [true, true], room⟩, [2], []⟩) := by
  unfold Ch.node
  rw [if_neg hne]
  unfold Ch.save
  rw [if_neg (by show ¬ room ≤ 1; omega)]
  rfl
 have hd : deepP key name 1 (5 - 0) 0 r ⟨⟨[b], [true], room⟩, [], []⟩ = ((⟨2, macB key name 1 0 (nodeB (above r))⟩, 1, 0), ⟨⟨[b, nodeB (above r)], [true, true], room⟩, [2], []⟩) := by
  rw [show 5 - 0 = 4 + 1 from rfl, deepP, if_neg (by decide), hn1, if_pos rfl, show (4 : Nat) = 3 + 1 from rfl, deepP, if_pos (by decide)]
 have hpts : ptsP key name ⟨[b, nodeB (above r)], [true, true], room⟩ ⟨2, macB key name 1 0 (nodeB (above r))⟩ 1 0 = some (above r) := by
  refine ptsP_node (by simp) rfl rfl rfl fun q hq => ?_
  rcases List.mem_cons.1 hq with rfl | hq
  ·exact hrok
  ·rw [List.eq_of_mem_replicate hq]; exact zero_ok
 have hp0 : putP key name 0 (0 + (1 - 0) / roomN 0 * roomN 0) ((above r).getD ((1 - 0) / roomN 0) Pr.zero) 1 b ⟨⟨[b, nodeB (above r)], [true, true], room⟩, [2], [2]⟩ = ((⟨3, macB key name 0 1 b⟩, 0), ⟨⟨[b, nodeB (above r), b], [true, true, true], room⟩, [2, 3], [2]⟩) := by
  rw [show (1 - 0) / roomN 0 = 1 by decide, show 0 + 1 * roomN 0 = 1 by decide, above_getD, if_neg (by decide), putP, show Ch.lose ⟨⟨[b, nodeB (above r)], [true, true], room⟩, [2], [2]⟩ Pr.zero = ⟨⟨[b, nodeB (above r)], [true, true], room⟩, [2], [2]⟩ from rfl]
  unfold Ch.save
  rw [if_neg (by show ¬ room ≤ 2; omega)]
  rfl
 have hn2 : Ch.node key name ⟨⟨[b, nodeB (above r), b], [true, true, true], room⟩, [2, 3], [2]⟩ 1 0 (twoPs r ⟨3, macB key name 0 1 b⟩) = ((⟨4, macB key name 1 0 (nodeB (twoPs r ⟨3, macB key name 0 1 b⟩))⟩, 0), ⟨⟨[b, nodeB (above r), b, nodeB (twoPs r ⟨3, macB key name 0 1 b⟩)], [true, true, true, true], room⟩, [2, 3, 4], [2]⟩) := by
  unfold Ch.node
  rw [if_neg (hne2 _)]
  unfold Ch.save
  rw [if_neg (by show ¬ room ≤ 3; omega)]
  rfl
 have hp : putP key name 1 0 ⟨2, macB key name 1 0 (nodeB (above r))⟩ 1 b ⟨⟨[b, nodeB (above r)], [true, true], room⟩, [2], []⟩ = ((⟨4, macB key name 1 0 (nodeB (twoPs r ⟨3, macB key name 0 1 b⟩))⟩, 0), ⟨⟨[b, nodeB (above r), b, nodeB (twoPs r ⟨3, macB key name 0 1 b⟩)], [true, true, true, true], room⟩, [2, 3, 4], [2]⟩) := by
  rw [putP, show Ch.lose ⟨⟨[b, nodeB (above r)], [true, true], room⟩, [2], []⟩ ⟨2, macB key name 1 0 (nodeB (above r))⟩ = ⟨⟨[b, nodeB (above r)], [true, true], room⟩, [2], [2]⟩ from rfl, hpts]
  simp only
  rw [hp0]
  simp only [if_true]
  rw [show (above r).set ((1 - 0) / roomN 0) ⟨3, macB key name 0 1 b⟩ = twoPs r ⟨3, macB key name 0 1 b⟩ from rfl]
  exact hn2
 have hT : putT key name ⟨[b], [true], room⟩ r 0 1 b = ((⟨4, macB key name 1 0 (nodeB (twoPs r ⟨3, macB key name 0 1 b⟩))⟩, 1, 0), ⟨⟨[b, nodeB (above r), b, nodeB (twoPs r ⟨3, macB key name 0 1 b⟩)], [true, true, true, true], room⟩, [2, 3, 4], [2]⟩) := by
  unfold putT
  rw [hd]
  simp only [if_true]
  rw [hp]
 exact ⟨nodeB (above r), hT, by unfold putS; rw [hT]; rfl⟩
theorem two_first {r q : Pr} (h : r.wf) : (nodeB (twoPs r q)).take 36 = packB r := by
 have : nodeB (twoPs r q) = packB r ++ (packsB (q :: List.replicate 12 Pr.zero) ++ List.replicate 8 0) := by simp [nodeB, twoPs, packsB]
 rw [this, List.take_left' (packB_length h)]
theorem two_second {r q : Pr} (h : r.wf) (h' : q.wf) : ((nodeB (twoPs r q)).drop 40).take 32 = q.mac := by
 have : nodeB (twoPs r q) = (packB r ++ layN q.sec 4) ++ (q.mac ++ (packsB (List.replicate 12 Pr.zero) ++ List.replicate 8 0)) := by simp [nodeB, twoPs, packsB, packB]
 rw [this, List.drop_left' (by rw [List.length_append, packB_length h, layN_length]), List.take_left' h'.mac]
theorem two_rest {r q : Pr} (h : r.wf) (h' : q.wf) : (nodeB (twoPs r q)).drop 72 = List.replicate 440 0 := by
 have : nodeB (twoPs r q) = (packB r ++ packB q) ++ (packsB (List.replicate 12 Pr.zero) ++ List.replicate 8 0) := by simp [nodeB, twoPs, packsB]
 rw [this, List.drop_left' (by rw [List.length_append, packB_length h, packB_length h'])]
 exact (by decide +kernel : packsB (List.replicate 12 Pr.zero) ++ List.replicate 8 0 = List.replicate 440 (0 : UInt8))
end Go.Mt
namespace Go.Kx
open Go
section
variable {P : Program} {n : Nat} {env : Env} {w : World} {dst : Option Tmp} {ty : TypeId} {pos : String} {aft : Array Edge} {g : Option (Nat × Bool)}
theorem x_slice_str_lh {T : TypeId} {x lo hi : Operand} {kl kk : IntKind} {a m : Nat} {l : List UInt8} [hT : TU P T .string] (hx : ev n env x = strV l) (hlo : ev n env lo = .int kl (a : Int)) (hh : ev n env hi = .int kk (m : Int)) (h1 : a ≤ m) (h : m ≤ l.length) :
  Run P n env ⟨dst, .slice T x (some lo) (some hi) none, ty, pos, aft, g⟩ w (.ok (.value (strV ((l.drop a).take (m - a)))) w) := by
 have hsz : (⟨l.toArray⟩ : ByteArray).size = l.length := by simp [ByteArray.size]
 have hb : ∀ c, (Instr.sliceBound (.int kk (m : Int)) l.length c).run P w = .ok m w := fun c => by
  have := run_sliceBound (P := P) (w := w) kk (m : Int) l.length c (by omega) (by omega)
  simpa using this
 have hb2 : ∀ c, (Instr.sliceBound (.int kl (a : Int)) m c).run P w = .ok a w := fun c => by
  have := run_sliceBound (P := P) (w := w) kl (a : Int) m c (by omega) (by omega)
  simpa using this
 have e : (⟨l.toArray⟩ : ByteArray).extract a m = ⟨((l.drop a).take (m - a)).toArray⟩ := by
  apply ByteArray.ext
  simp [ByteArray.data_extract]
 unfold Run
 simp [execOp, hx, hh, hlo, strV, Instr.sliceAt, Instr.slice, run_underlying hT.h, Instr.sliceBounds, hb, hb2, hsz, e]
theorem x_slice_str_l {T : TypeId} {x lo : Operand} {kl : IntKind} {a : Nat} {l : List UInt8} [hT : TU P T .string] (hx : ev n env x = strV l) (hlo : ev n env lo = .int kl (a : Int)) (h : a ≤ l.length) :
  Run P n env ⟨dst, .slice T x (some lo) none none, ty, pos, aft, g⟩ w (.ok (.value (strV (l.drop a))) w) := by
 have hsz : (⟨l.toArray⟩ : ByteArray).size = l.length := by simp [ByteArray.size]
 have hb2 : ∀ c, (Instr.sliceBound (.int kl (a : Int)) l.length c).run P w = .ok a w := fun c => by
  have := run_sliceBound (P := P) (w := w) kl (a : Int) l.length c (by omega) (by omega)
  simpa using this
 have e : (⟨l.toArray⟩ : ByteArray).extract a l.length = ⟨(l.drop a).toArray⟩ := by
  apply ByteArray.ext
  simp [ByteArray.data_extract]
  exact List.take_of_length_le (by simp)
 unfold Run
 simp [execOp, hx, hlo, strV, Instr.sliceAt, Instr.slice, run_underlying hT.h, Instr.sliceBounds, hb2, hsz, e]
theorem r_copy_strA {T T2 E E2 : TypeId} [hT : TU P T (.slice E2)] [hs : TSz P E2 1] {x y : Operand} {b off dl dc : Nat} {cs : List Value} {l : List UInt8} (hx : ev n env x = .slice (some ⟨b, off, none⟩) dl dc) (hy : ev n env y = strV l)
  (hl : l.length = dl) (hb : Blk w b E (0, 0) cs) (ho : off + dl ≤ cs.length) :
  ∃ v w', Run P n env ⟨dst, .call ⟨.builtin .copy, #[x, y], #[T, T2]⟩, ty, pos, aft, g⟩ w (.ok (.value v) w') ∧ v = .int .i64 (dl : Nat) ∧ Eff w w' b (.cells (lay cs off (ints .u8 (bs8 l))).toArray E (0, 0)) := by
 subst hl
 obtain ⟨w', hr, hw⟩ := run_storeCells_eff (P := P) (b := b) (off := off) (E := E) (ints .u8 (bs8 l)) 0 cs w hb (by simp; omega) (fun v hv => (List.all_eq_true.1 (ints_one _ _)) v hv)
 have hby : byteCells ⟨l.toArray⟩ = ints .u8 (bs8 l) := by
  simp [byteCells, ints, bs8, ub]
 have h := firstCells_string (P := P) ⟨l.toArray⟩ w
 rw [hby] at h
 have hsz : (⟨l.toArray⟩ : ByteArray).size = l.length := rfl
 rw [hsz] at h
 refine ⟨_, w', ?_, rfl, hw⟩
 unfold Run
 simp [execOp, hx, hy, strV, resolve, invoke, builtin, run_underlying hT.h, Builtin.copy_, Builtin.lenOf, run_sizeOf hs.h, goInt, hsz, h, hr]
theorem r_make1 {T E : TypeId} {z : Value} {y : Nat} [hT : TU P T (.slice E)] [TZ P E z] [TSz P E 1] [TBy P E y]
  {x c : Operand} {kl kc : IntKind} {l cp : Int} (hx : ev n env x = .int kl l) (hc : ev n env c = .int kc cp) (h0 : 0 ≤ l) (h1 : l ≤ cp) (hz : one z = true) (hb : (y : Int) * cp ≤ 281474976710656) (h63 : cp ≤ 9223372036854775807) :
  ∃ v w', Run P n env ⟨dst, .makeSlice T x c, ty, pos, aft, g⟩ w (.ok (.value v) w') ∧ ∃ b, v = .slice (some ⟨b, 0, none⟩) l.toNat cp.toNat ∧ b = w.heap.size ∧ Eff w w' b (.cells (List.replicate cp.toNat z).toArray E (0, 0)) := by
 obtain ⟨i, hi, hiz, hs, hy⟩ := info_of (P := P) (T := E) (z := z) (s := 1) (y := y)
 have hr := run_make (P := P) w T E i z hT.h hi hiz kl kc l cp h0 h1 (by rw [hy]; exact hb) h63
 have hcells : z.cells = #[z] := by cases z <;> simp_all [one, Value.cells]
 rw [hs, hcells, Nat.mul_one, madeCells_rep] at hr
 refine ⟨.slice (some ⟨w.heap.size, 0, none⟩) l.toNat cp.toNat, w.alloc (.cells (List.replicate cp.toNat z).toArray E), ?_, _, rfl, rfl, eff_push w _⟩
 unfold Run
 simp [execOp, hx, hc, hr]
end
end Go.Kx
namespace Go.Mt
open Go Go.Kx Go.Proofs.YtfngacepjcdlnaaDoor
theorem mac_sl {w : World} {b : Nat} {E : TypeId} {r : Pr} {sp : List Value} (hB : Blk w b E (0, 0) (prC r ++ sp)) (h : r.wf) : SlE w .u8 (some ⟨b, 1, none⟩) 32 32 (bs8 r.mac) (fun _ => True) :=
 ⟨by simp [h.mac], Nat.le_refl _, by omega, .inr ⟨b, 1, rfl, hB.lt, trivial, fun j hj => by
  rw [hB.cell, Nat.add_comm 1, List.getElem?_append_left (by rw [prC_length h]; simp [h.mac] at hj; omega)]
  rfl⟩⟩
theorem trC_one (r : Pr) (d : Int) : (trC r d).all (·.oneCell') = true := by unfold trC; rw [List.all_append, prC_one]; rfl
theorem mac_lay {s : Nat} {m m' : List UInt8} (h : m.length = 32) (h' : m'.length = 32) : lay (prC ⟨s, m⟩) 1 (ints .u8 (bs8 m')) = prC ⟨s, m'⟩ := by
 unfold lay prC
 simp [h, h']
end Go.Mt
namespace Go.Proofs.YtfngacepjcdlnaaDoor
open Go Go.Kx Go.Kr Go.Mt
theorem built58 (a b : Int) : Tryd.prog.built 58 [(0, .int .i64 a), (1, .int .i64 b)] = some [Value.int .i64 a, Value.int .i64 b].toArray := by kernel_rfl
theorem built38_s (a : Int) : Tryd.prog.built 38 [(0, .int .i64 a)] = some (Value.int .i64 a :: ints .u8 (bs8 (List.replicate 32 0))).toArray := by kernel_rfl
end Go.Proofs.YtfngacepjcdlnaaDoor
