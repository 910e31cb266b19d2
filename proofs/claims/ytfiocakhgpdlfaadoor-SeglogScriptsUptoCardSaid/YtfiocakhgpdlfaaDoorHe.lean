/- Open: what is picked, and the words of its walk. slices.Delete at segments. -/
import Derived.Test.YtfiocakhgpdlfaaDoorHd
import Derived.Deep.RegionLaw
namespace Go.Proofs.YtfiocakhgpdlfaaDoor.Sg
open Go.RowKit Go.Lib Go.Proofs.YtfiocakhgpdlfaaDoor.Ap Go.Proofs.YtfiocakhgpdlfaaDoorW.PrintWords Go.Proofs.YtfiocakhgpdlfaaDoorW.PrintLast Go.Proofs.YtfiocakhgpdlfaaDoorW.PrintMore
set_option linter.unusedVariables false
set_option linter.unusedSimpArgs false

/-- the checkpoint that is picked so far, one sector more -/
def stepP (pk : Option (Cp × Nat)) (o : Option Cp) (i : Nat) : Option (Cp × Nat) :=
  match o with
  | none => pk
  | some c => match pk with
    | none => some (c, i)
    | some (a, p) => if a.serial < c.serial then some (c, i) else some (a, p)
def pickTo (S : List ByteArray) : Nat → Option (Cp × Nat)
  | 0 => none
  | i + 1 => stepP (pickTo S i) (cpOf (secOf S i) (segsN S)) i
theorem pickTo_two (S : List ByteArray) : pickTo S 2 = pick S := by
  unfold pick
  simp only [pickTo]
  cases cpOf (secOf S 0) (segsN S) <;> cases cpOf (secOf S 1) (segsN S) <;> rfl
theorem secOf_len {d : Dk} (h : d.Ok) (i : Nat) (hi : i < d.now.length) : (secOf d.now i).length = 256 := by
  unfold secOf
  refine full_length _ (h.nsz _ ?_)
  rw [List.getD_eq_getElem?_getD, List.getElem?_eq_getElem hi]
  exact List.getElem_mem hi
def lgCells (pk : Option (Cp × Nat)) (vS : Value) (gd : Nat) : Array Value :=
  match pk with
  | none => #[.int .i64 0, .int .i64 0, .int .i64 0, .slice none 0 0, .pointer (some ⟨gd, 0, none⟩), .int .i64 0]
  | some (c, p) => #[.int .i64 c.serial, .int .i64 c.boot, .int .i64 c.seq, vS, .pointer (some ⟨gd, 0, none⟩), .int .i64 p]
structure PB (w0 w : World) (gl gd : Nat) (pk : Option (Cp × Nat)) (vS : Value) : Prop where
  blk : w.heap[gl]? = some (.cells (lgCells pk vS gd) 83 (0, 0))
  segs : ∀ c p, pk = some (c, p) → SegsAt w0.heap.size w vS c.segs
  bel : Below w0.heap.size w0 w
  ge : w0.heap.size ≤ gl
theorem PB.step {w0 w w' : World} {gl gd : Nat} {pk : Option (Cp × Nat)} {vS : Value} (h : PB w0 w gl gd pk vS) (hb : Below w.heap.size w w') : PB w0 w' gl gd pk vS :=
  ⟨Lb.blk_below h.blk hb, fun c p e => (h.segs c p e).step hb, below_step h.bel hb, h.ge⟩
theorem cp_none (l : List UInt8) (hl : l.length = 256) (S : Nat) (hS : S ≤ 64) (w : World) (ho : cpOf l S = none) :
    Calls Tryd.prog 35 #[.string (toB l), .int .i64 S] w fun e w' => e = .returned (.tuple #[.agg #[.int .i64 0, .int .i64 0, .int .i64 0, .slice none 0 0], .bool false]) ∧ Below w.heap.size w w' := by
  have h := cpOf_calls l hl S hS w
  rw [ho] at h; exact h
theorem cp_some (l : List UInt8) (hl : l.length = 256) (S : Nat) (hS : S ≤ 64) (w : World) (c : Cp) (ho : cpOf l S = some c) :
    Calls Tryd.prog 35 #[.string (toB l), .int .i64 S] w fun e w' => ∃ A cap, e = .returned (.tuple #[.agg #[.int .i64 c.serial, .int .i64 c.boot, .int .i64 c.seq, .slice A c.segs.length cap], .bool true]) ∧ SegsAt w.heap.size w' (.slice A c.segs.length cap) c.segs ∧ Below w.heap.size w w' := by
  have h := cpOf_calls l hl S hS w
  rw [ho] at h
  refine h.mono fun e w' h => ?_
  obtain ⟨v, e1, e2, e3⟩ := h
  obtain ⟨A, cap, rfl, _⟩ := own_slice e2
  exact ⟨A, cap, e1, e2, e3⟩
theorem cp_some2 (l : List UInt8) (hl : l.length = 256) (S : Nat) (hS : S ≤ 64) (w : World) (cs cb cq : Nat) (cl : List Seg) (n : Nat) (hn : n = cl.length) (ho : cpOf l S = some ⟨cs, cb, cq, cl⟩) :
    Calls Tryd.prog 35 #[.string (toB l), .int .i64 S] w fun e w' => ∃ A cap, e = .returned (.tuple #[.agg #[.int .i64 cs, .int .i64 cb, .int .i64 cq, .slice A n cap], .bool true]) ∧ SegsAt w.heap.size w' (.slice A n cap) cl ∧ Below w.heap.size w w' := by
  subst hn
  exact cp_some l hl S hS w ⟨cs, cb, cq, cl⟩ ho
theorem PB.put {w0 w w1 w2 : World} {gl gd i : Nat} {pk : Option (Cp × Nat)} {vS : Value} {A : Option Addr} {n cap cs cb cq : Nat} {cl : List Seg} {q x : Value} (h : PB w0 w gl gd pk vS) (hs : SegsAt w0.heap.size w (.slice A n cap) cl) (hg1 : w.grownBy w1 (some gl)) (hg2 : w1.grownBy w2 (some gl))
    (hx1 : w1.heap[gl]? = some (.cells #[.int .i64 cs, .int .i64 cb, .int .i64 cq, .slice A n cap, q, x] 83 (0, 0)))
    (hx2 : w2.heap[gl]? = some (.cells #[.int .i64 cs, .int .i64 cb, .int .i64 cq, .slice A n cap, .pointer (some ⟨gd, 0, none⟩), .int .i64 i] 83 (0, 0))) : PB w0 w2 gl gd (some (⟨cs, cb, cq, cl⟩, i)) (.slice A n cap) := by
  have k1 := types_blk h.blk hg1
  have k2 := types_blk hx1 hg2
  refine ⟨hx2, fun c p e => ?_, (h.bel.grown hg1 h.bel.size (fun q hq => by injection hq with hq; have := h.ge; omega)).grown hg2 (Nat.le_trans h.bel.size hg1.size) (fun q hq => by injection hq with hq; have := h.ge; omega), h.ge⟩
  injection e with e
  injection e with e1 e2
  subst e1
  exact own_keep (own_keep hs (fun k cs f hr => k1 _ _ _ _ (by decide) hr)) (fun k cs f hr => k2 _ _ _ _ (by decide) hr)
theorem save_any (B gl gd : Nat) (d : Dk) (l : Lg) (vS : Value) (c : Cp) (A : Option Addr) (n cap : Nat) (x y z : Int) (hx : x = (c.serial : Int)) (hy : y = (c.boot : Int)) (hz : z = (c.seq : Int)) (hN : n = c.segs.length) (r : Dk × Lg × Int) (hr : save d l c = r) (w : World) (hl : LRaw B w gl gd l vS) (hd : DAt B w gd d) (hs : SegsAt B w (.slice A n cap) c.segs)
    (h1 : c.serial ≤ 9000000000000000000) (h2 : c.boot ≤ 9000000000000000000) (h3 : c.seq ≤ 9000000000000000000) (hn : c.segs.length ≤ 64) (hid : ∀ s ∈ c.segs, s.id ≤ 1000 ∧ s.used ≤ 1000) (hp : l.place ≤ 1) (hq : d.queue.length ≤ 100) (h2n : 2 ≤ d.now.length) :
    Calls Tryd.prog 39 #[.pointer (some ⟨gl, 0, none⟩), .agg #[.int .i64 x, .int .i64 y, .int .i64 z, .slice A n cap]] w fun e w' => e = .returned (.int .i64 r.2.2) ∧ DAt B w' gd r.1 ∧ LAt B w' gl gd r.2.1 ∧ FrL B w w' := by
  subst hx hy hz hN hr
  exact save_calls B gl gd d l vS c A cap w hl hd hs h1 h2 h3 hn hid hp hq h2n
theorem next_any (B gl gd : Nat) (l : Lg) (vS : Value) (A : Option Addr) (n cap : Nat) (x y : Int) (hx : x = ((l.cp.serial + 1 : Nat) : Int)) (hy : y = (l.cp.seq : Int)) (w : World) (h : LRaw B w gl gd l vS) (hs : l.cp.serial ≤ 9000000000000000000) :
    Calls Tryd.prog 38 #[.pointer (some ⟨gl, 0, none⟩), .slice A n cap] w fun e w' => e = .returned (.agg #[.int .i64 x, .int .i64 l.cp.boot, .int .i64 y, .slice A n cap]) ∧ Below w.heap.size w w' := by
  subst hx hy
  exact next_calls B gl gd l vS A n cap w h hs
/-- what Open answers -/
def OpenPost (B gd : Nat) (w : World) (r : Dk × Lg × Int) (out : List Rec) (e : Ending) (w' : World) : Prop :=
  DAt B w' gd r.1 ∧ FrL B w w' ∧ ((r.2.2 = 0 ∧ ∃ gl v, e = .returned (.tuple #[.pointer (some ⟨gl, 0, none⟩), v, .int .i64 0]) ∧ LAt B w' gl gd r.2.1 ∧ RecsAt B w' v out) ∨ (r.2.2 ≠ 0 ∧ e = .returned (.tuple #[.pointer none, .slice none 0 0, .int .i64 r.2.2])))
theorem RecsAt.frL {B : Nat} {w w' : World} {v : Value} {l : List Rec} (h : RecsAt B w v l) (hf : FrL B w w') : RecsAt B w' v l := own_keep h (fun k cs f hr => hf.frm _ _ _ _ hr (by decide) (by decide) (by decide) (by decide) (by decide))
theorem LRaw.less {B B' : Nat} {w : World} {gl gd : Nat} {l : Lg} {vS : Value} (h : LRaw B w gl gd l vS) (hB : B' ≤ B) : LRaw B' w gl gd l vS := ⟨h.blk, own_less h.segs hB, Nat.le_trans hB h.ge⟩
end Go.Proofs.YtfiocakhgpdlfaaDoor.Sg

namespace Go.Proofs.YtfiocakhgpdlfaaDoor.Sg
open Go.RowKit Go.Lib Go.Proofs.YtfiocakhgpdlfaaDoor.Ap Go.Proofs.YtfiocakhgpdlfaaDoorW.PrintWords Go.Proofs.YtfiocakhgpdlfaaDoorW.PrintLast Go.Proofs.YtfiocakhgpdlfaaDoorW.PrintMore
set_option linter.unusedVariables false
set_option linter.unusedSimpArgs false

theorem seg_zero (w : World) : (zeroValue 71).run Tryd.prog w = .ok (.agg #[.int .i64 0, .int .i64 0]) w := by kernel_rfl
/-- 'clear' of the last segment of a row -/
theorem clear_seg (w : World) (k i c L : Nat) (hL : L = 1) (row : Array Value) (hr : w.heap[k]? = some (.cells row 71 (0, 0))) (hfit : i * 2 + 2 ≤ row.size) :
    ∃ Z : List Value, Z.length = 2 ∧ ∀ ty, (Builtin.clear_ #[67] ty #[.slice (some ⟨k, i * 2, none⟩) L c]).run Tryd.prog w = .ok (.tuple #[]) (w.setCells k (i * 2) Z) := by
  subst hL
  refine ⟨(Builtin.zeroCells #[.int .i64 0, .int .i64 0] 1).toList, by simp [Builtin.zeroCells], fun ty => ?_⟩
  have hst := run_storeCells_cells (P := Tryd.prog) k (i * 2) (Builtin.zeroCells #[.int .i64 0, .int .i64 0] 1).toList 0 w (fun j hj => by
      have : j < 2 := by simpa [Builtin.zeroCells] using hj
      rw [blk_cell hr]
      simp only [Nat.add_zero]
      rw [Array.getElem?_eq_getElem (by omega)]
      rfl) (fun j hj => blk_frozen hr _) (fun v hv => by
      simp only [Builtin.zeroCells, Array.toList_map, List.mem_map] at hv
      obtain ⟨q, _, rfl⟩ := hv
      have hq : q % 2 < 2 := Nat.mod_lt _ (by decide)
      have : q % 2 = 0 ∨ q % 2 = 1 := by omega
      show (#[Value.int .i64 0, .int .i64 0][q % 2]!).oneCell' = true
      rcases this with h | h <;> rw [h] <;> rfl)
  simp only [Nat.add_zero] at hst
  simp [Builtin.clear_, run_underlying Tryd.underlying67, seg_zero w, Value.cells, hst]
theorem flatS_drop : ∀ (l : List Seg) (i : Nat), (flatS l).drop (i * 2) = flatS (l.drop i)
  | l, 0 => by simp
  | [], i + 1 => by simp [flatS]
  | x :: r, i + 1 => by
    rw [show (i + 1) * 2 = i * 2 + 1 + 1 by omega]
    simp only [flatS, List.drop_succ_cons]
    exact flatS_drop r i
theorem flatS_take : ∀ (l : List Seg) (i : Nat), (flatS l).take (i * 2) = flatS (l.take i)
  | l, 0 => by simp [flatS]
  | [], i + 1 => by simp [flatS]
  | x :: r, i + 1 => by
    rw [show (i + 1) * 2 = i * 2 + 1 + 1 by omega]
    simp only [flatS, List.take_succ_cons]
    rw [flatS_take r i]
theorem erase_split (l : List Seg) (i : Nat) : l.eraseIdx i = l.take i ++ l.drop (i + 1) := List.eraseIdx_eq_take_drop_succ l i
/-- a row of segments in one block -/
theorem SegsAt.blk {B : Nat} {w : World} {k n cap : Nat} {l : List Seg} (h : SegsAt B w (.slice (some ⟨k, 0, none⟩) n cap) l) : ∃ row : Array Value, w.heap[k]? = some (.cells row 71 (0, 0)) ∧ l.length = n ∧ B ≤ k ∧ n ≤ cap ∧ cap ≤ maxLen ∧ row.size = cap * 2 ∧ row.toList.take (n * 2) = flatS l := by
  obtain ⟨h1, h2⟩ := h
  rcases h2 with ⟨h2, _⟩ | ⟨g, cap', cur, e, hB, hr, hn, hm, hs, ht⟩
  · cases h2
  · injection e with e1 e2 e3
    injection e1 with e1
    injection e1 with e1 _ _
    subst e1 e3
    exact ⟨cur, hr, e2.symm, hB, by rw [e2]; exact hn, hm, hs, by rw [e2]; exact ht⟩
theorem SegsAt.mk' {B : Nat} {w : World} {k n cap : Nat} {l : List Seg} {row : Array Value} (h : w.heap[k]? = some (.cells row 71 (0, 0))) (hl : l.length = n) (hB : B ≤ k) (hn : n ≤ cap) (hm : cap ≤ maxLen) (hs : row.size = cap * 2) (ht : row.toList.take (n * 2) = flatS l) : SegsAt B w (.slice (some ⟨k, 0, none⟩) n cap) l := by
  subst hl
  exact ⟨flatS_length l, .inr ⟨k, cap, row, rfl, hB, h, hn, hm, hs, ht⟩⟩
/-- the cells that are moved one to the left -/
def movedS (l : List Seg) (i : Nat) : List Value := flatS (l.drop (i + 1))
/-- what Delete leaves of a row -/
theorem SegsAt.del {B : Nat} {w : World} {k n cap : Nat} {l : List Seg} {i : Nat} {Z : List Value} (h : SegsAt B w (.slice (some ⟨k, 0, none⟩) n cap) l) (hi : i < n) (hZ : Z.length = 2) :
    SegsAt B ((w.drew.setCells k (i * 2) (movedS l i)).setCells k ((n - 1) * 2) Z) (.slice (some ⟨k, 0, none⟩) (n - 1) cap) (l.eraseIdx i) ∧ w.grownBy ((w.drew.setCells k (i * 2) (movedS l i)).setCells k ((n - 1) * 2) Z) (some k) := by
  obtain ⟨row, hr, hl, hB, hn, hm, hs, ht⟩ := h.blk
  have hml : (movedS l i).length = (n - (i + 1)) * 2 := by unfold movedS; rw [flatS_length, List.length_drop, hl]
  obtain ⟨cur1, a1, a2, a3⟩ := setCells_row (movedS l i) (i * 2) w.drew row hr (by omega)
  obtain ⟨s1, s2, s3, s4⟩ := setCells_same k (movedS l i) (i * 2) w.drew
  obtain ⟨cur2, b1, b2, b3⟩ := setCells_row Z ((n - 1) * 2) (w.drew.setCells k (i * 2) (movedS l i)) cur1 a1 (by omega)
  obtain ⟨t1, t2, t3, t4⟩ := setCells_same k Z ((n - 1) * 2) (w.drew.setCells k (i * 2) (movedS l i))
  have hrl : row.toList.length = cap * 2 := by simpa using hs
  have he : (l.eraseIdx i).length = n - 1 := by rw [List.length_eraseIdx, if_pos (by omega), hl]
  refine ⟨SegsAt.mk' b1 he hB (by omega) hm (by omega) ?_, ?_⟩
  · have e1 : row.toList.take (i * 2) = flatS (l.take i) := by
      rw [← flatS_take, ← ht, List.take_take, Nat.min_eq_left (by omega)]
    rw [b3, a3, erase_split, flatS_app, e1]
    have h1 : (flatS (l.take i)).length = i * 2 := by rw [flatS_length, List.length_take]; omega
    show List.take ((n - 1) * 2) (List.take ((n - 1) * 2) (flatS (l.take i) ++ movedS l i ++ _) ++ Z ++ _) = flatS (l.take i) ++ movedS l i
    have h2 : (flatS (l.take i) ++ movedS l i).length = (n - 1) * 2 := by rw [List.length_append, h1, hml]; omega
    rw [List.take_append_of_le_length (l₁ := flatS (l.take i) ++ movedS l i) (by omega), List.take_of_length_le (l := flatS (l.take i) ++ movedS l i) (by omega), List.append_assoc, List.take_append_of_le_length (by omega), List.take_of_length_le (by omega)]
  · exact ⟨t1.trans s1, t2.trans s2, t3.trans s3, by rw [t4, s4]; exact Nat.le_refl _, fun q _ hq => (setCells_far Z _ q (fun e => hq (by rw [e]))).trans (setCells_far _ _ q (fun e => hq (by rw [e])))⟩

set_option maxRecDepth 100000 in
set_option maxHeartbeats 8000000 in
theorem delete_calls (B k n cap i : Nat) (l : List Seg) (i1 : Int) (h1 : i1 = (i : Int) + 1) (w : World) (h : SegsAt B w (.slice (some ⟨k, 0, none⟩) n cap) l) (hi : i + 1 < n) (hn : n ≤ 64) :
    Calls Tryd.prog 47 #[.slice (some ⟨k, 0, none⟩) n cap, .int .i64 i, .int .i64 i1] w fun e w' => e = .returned (.slice (some ⟨k, 0, none⟩) (n - 1) cap) ∧ SegsAt B w' (.slice (some ⟨k, 0, none⟩) (n - 1) cap) (l.eraseIdx i) ∧ w.grownBy w' (some k) := by
  obtain ⟨row, hr, hl, hB, hnc, hm, hs, ht⟩ := h.blk
  obtain ⟨i0, hi0, hz0, hz1, hz2⟩ := info_parts (P := Tryd.prog) seg_info
  have hml : (movedS l i).length = (n - (i + 1)) * 2 := by unfold movedS; rw [flatS_length, List.length_drop, hl]
  have HML := Aside0.mk hml
  have HON : Aside0 (∀ u ∈ movedS l i, u.oneCell' = true) := ⟨flatS_one _⟩
  have HNEW : Aside0 (∀ j u, (movedS l i)[j]? = some u → w.drew.cell? ((⟨k, (i + 1) * 2, none⟩ : Addr).add j) = some u) := ⟨fun j u hu => by
    have hj : j < (n - (i + 1)) * 2 := by rw [← hml]; exact (List.getElem?_eq_some_iff.1 hu).1
    rw [Addr.add_lit]
    refine (blk_cell (w := w.drew) hr _).trans ?_
    unfold movedS at hu
    rw [← flatS_drop, ← ht, List.getElem?_drop, List.getElem?_take, if_pos (by omega), Array.getElem?_toList] at hu
    exact hu⟩
  have HSP : Aside0 (∀ j, j < (movedS l i).length → (w.drew.cell? ⟨k, 0 + i * 2 + j, none⟩).isSome = true ∧ w.drew.frozen? ⟨k, 0 + i * 2 + j, none⟩ = false) := ⟨fun j hj => by
    refine ⟨?_, blk_frozen (w := w.drew) hr _⟩
    rw [blk_cell (w := w.drew) hr, Array.getElem?_eq_getElem (by omega)]
    rfl⟩
  obtain ⟨cur1, a1, a2, a3⟩ := setCells_row (movedS l i) (i * 2) w.drew row hr (by omega)
  obtain ⟨Z, hZ, hcr⟩ := clear_seg (w.drew.setCells k (i * 2) (movedS l i)) k (n - 1) (cap - (n - 1)) (n - (n - 1)) (by omega) cur1 a1 (by omega)
  have HD := Aside0.mk (h.del (i := i) (by omega) hZ)
  have hic : i ≤ cap := by omega
  have hwr : IntKind.i64.wrap ((i : Int) + 1) = (i : Int) + 1 := by rw [IntKind.wrap_i64]; omega
  have hp0 : (0 : Int) ≤ (i : Int) + 1 := by omega
  have hp1 : (i : Int) + 1 ≤ (n : Int) := by omega
  have hp2 : ((i : Int) + 1).toNat = i + 1 := by omega
  have hp3 : ¬ (cap = i + 1) := by omega
  have hp4 : i + (n - (i + 1)) = n - 1 := by omega
  subst h1
  clear h hr hl hs ht hml a1 a2 a3 hZ
  go_enter Tryd.func47, Tryd.ntmps47
  go_wp2_with fail
  go_region_law (refine step_append_room rfl (.tmp 22) (.tmp 25) 67 rfl 71 i0 2 Tryd.underlying67 hi0 hz1 k 0 i cap (by simp [Act.eval, Act.put]) ⟨k, (i + 1) * 2, none⟩ (n - (i + 1)) (cap - (i + 1)) (movedS l i) (by simp [Act.eval, Act.put]) HML.out HNEW.out HON.out (by omega) HSP.out ?_)
  go_wp2
  go_ret
  exact ⟨rfl, HD.out⟩
end Go.Proofs.YtfiocakhgpdlfaaDoor.Sg
