/- The document's log: Free. The document's log: what may change; Parts. The document's log: appends to its rows. -/
import Derived.Test.YtfiocakhgpdlfaaDoorHi
import Derived.Test.YtfiocakhgpdlfaaDoorPAx2
namespace Go.Proofs.YtfiocakhgpdlfaaDoor.Sg
open Go.RowKit Go.Lib Go.Proofs.YtfiocakhgpdlfaaDoor.Ap Go.Proofs.YtfiocakhgpdlfaaDoorW.PrintWords Go.Proofs.YtfiocakhgpdlfaaDoorW.PrintLast Go.Proofs.YtfiocakhgpdlfaaDoorW.PrintMore
set_option linter.unusedVariables false
set_option linter.unusedSimpArgs false

/-- a slice of numbers, a row of the call's own -/
abbrev IntsR (B : Nat) (w : World) (v : Value) (l : List Int) : Prop := w.ownsRow B 3 1 v l.length (l.map (Value.int .i64))
theorem IntsR.at {B : Nat} {w : World} {v : Value} {l : List Int} (h : IntsR B w v l) (i : Nat) (x : Int) (hx : l[i]? = some x) : ∃ k cap, v = .slice (some ⟨k, 0, none⟩) l.length cap ∧ B ≤ k ∧ w.cell? ⟨k, i, none⟩ = some (.int .i64 x) := by
  have hlt : i < l.length := (List.getElem?_eq_some_iff.1 hx).1
  obtain ⟨k, cap, row, e, _, hB, hr, hxs⟩ := row_at h (by omega)
  exact ⟨k, cap, e, hB, (blk_cell hr _).trans (hxs i _ (by rw [List.getElem?_map, hx]; rfl))⟩
theorem IntsR.step {B : Nat} {w w' : World} {v : Value} {l : List Int} (h : IntsR B w v l) (hb : Below w.heap.size w w') : IntsR B w' v l := own_keep h (fun k cs f hr => Lb.blk_below hr hb)
/-- the document's log -/
structure Rl where
  segs : Nat
  ids : List Int
  used : List Int
  seq : Int
  boot : Int
  serial : Int
/-- and where it lies -/
structure RRaw (B : Nat) (w : World) (g : Nat) (R : Rl) (vI vU : Value) : Prop where
  blk : w.heap[g]? = some (.cells #[.int .i64 R.segs, vI, vU, .int .i64 R.seq, .int .i64 R.boot, .int .i64 R.serial] 57 (0, 0))
  ids : IntsR B w vI R.ids
  used : IntsR B w vU R.used
  ge : B ≤ g
  apart : ∀ k, vI.ownBlock = some k → vU.ownBlock ≠ some k
theorem RRaw.cells {B : Nat} {w : World} {g : Nat} {R : Rl} {vI vU : Value} (h : RRaw B w g R vI vU) :
    w.cell? ⟨g, 0, none⟩ = some (.int .i64 R.segs) ∧ w.cell? ⟨g, 1, none⟩ = some vI ∧ w.cell? ⟨g, 2, none⟩ = some vU ∧ w.cell? ⟨g, 3, none⟩ = some (.int .i64 R.seq) ∧ w.cell? ⟨g, 4, none⟩ = some (.int .i64 R.boot) ∧ w.cell? ⟨g, 5, none⟩ = some (.int .i64 R.serial) :=
  ⟨(blk_cell h.blk 0).trans rfl, (blk_cell h.blk 1).trans rfl, (blk_cell h.blk 2).trans rfl, (blk_cell h.blk 3).trans rfl, (blk_cell h.blk 4).trans rfl, (blk_cell h.blk 5).trans rfl⟩
theorem RRaw.step {B : Nat} {w w' : World} {g : Nat} {R : Rl} {vI vU : Value} (h : RRaw B w g R vI vU) (hb : Below w.heap.size w w') : RRaw B w' g R vI vU :=
  ⟨Lb.blk_below h.blk hb, h.ids.step hb, h.used.step hb, h.ge, h.apart⟩

/-- how many numbers below one are not among these -/
def cntF (ids : List Int) : Nat → Nat
  | 0 => 0
  | i + 1 => if ids.contains (i : Int) = true then cntF ids i else cntF ids i + 1
/-- and the least of them -/
def leastF (ids : List Int) : Nat → Int
  | 0 => -1
  | i + 1 => if ids.contains (i : Int) = true then leastF ids i else if leastF ids i < 0 then i else leastF ids i
theorem cntF_le (ids : List Int) : ∀ i, cntF ids i ≤ i
  | 0 => Nat.le_refl _
  | i + 1 => by have := cntF_le ids i; rw [cntF]; split <;> omega
theorem contains_take (l : List Int) (j : Nat) (x y : Int) (h : l[j]? = some x) : (l.take (j + 1)).contains y = ((l.take j).contains y || x == y) := by
  rw [List.take_add_one, h]
  rw [Bool.eq_iff_iff]
  simp
  constructor
  · rintro (h | h)
    · exact .inl h
    · exact .inr h.symm
  · rintro (h | h)
    · exact .inl h
    · exact .inr h.symm

set_option maxRecDepth 100000 in
theorem rfree_calls (B g : Nat) (R : Rl) (vI vU : Value) (w : World) (h : RRaw B w g R vI vU) (hS : R.segs ≤ 64) (hn : R.ids.length ≤ 64) :
    Calls Tryd.prog 50 #[.pointer (some ⟨g, 0, none⟩)] w fun e w' => e = .returned (.tuple #[.int .i64 (cntF R.ids R.segs), .int .i64 (leastF R.ids R.segs)]) ∧ w = w' := by
  obtain ⟨S, ids, used, seq, boot, serial⟩ := R
  obtain ⟨A, cI, rfl, _⟩ := own_slice h.ids
  obtain ⟨c0, c1, -, -, -, -⟩ := h.cells
  obtain ⟨n, hn'⟩ : ∃ n, n = ids.length := ⟨_, rfl⟩
  have HI : Aside0 (IntsR B w (.slice A ids.length cI) ids) := ⟨h.ids⟩
  simp only at c0 c1 hS hn ⊢
  rw [← hn'] at c1
  have HN := Aside0.mk hn'
  have hnI : (n : Int) ≤ 64 := by omega
  have hSI : (S : Int) ≤ 64 := by omega
  have HS := Aside0.mk hS
  clear h hS hn hn'
  go_enter Tryd.func50, Tryd.ntmps50
  go_wp2
  go_loopg [4, 5, 6] S (fun gk s4 s5 s6 wr => ∃ (i q : Nat) (m : Int), i + gk = S ∧ s4 = .int .i64 q ∧ s5 = .int .i64 m ∧ s6 = .int .i64 i ∧ w = wr ∧ Aside0 (q = cntF ids i ∧ m = leastF ids i))
  case atStart => exact ⟨0, 0, -1, by omega, rfl, rfl, rfl, rfl, ⟨rfl, rfl⟩⟩
  case round =>
    obtain ⟨i, q, m, hi, rfl, rfl, rfl, rfl, HQ⟩ := hrel
    cases gk with
    | zero =>
      obtain rfl : i = S := by omega
      have hii : ¬ ((i : Int) < (i : Int)) := by omega
      go_wp2
      go_ret2
      exact ⟨by rw [← HQ.out.1, ← HQ.out.2]; rfl, rfl⟩
    | succ k1 =>
      have hii : (i : Int) < (S : Int) := by omega
      have HI1 := Aside0.mk hi
      have hq : (q : Int) ≤ 64 := by have := HQ.out.1; have := cntF_le ids i; omega
      clear hi
      go_wp2
      go_loopg [7, 8] n (fun gk s7 s8 wr => ∃ (j : Nat) (b : Bool), j + gk = n ∧ s7 = .bool b ∧ s8 = .int .i64 j ∧ w = wr ∧ Aside0 (b = (ids.take j).contains (i : Int)))
      case atStart => exact ⟨0, false, by omega, rfl, rfl, rfl, ⟨rfl⟩⟩
      case round =>
        obtain ⟨j, b, hj, rfl, rfl, rfl, HBB⟩ := hrel
        cases gk with
        | zero =>
          obtain rfl : j = n := by omega
          have hjj : ¬ ((j : Int) < (j : Int)) := by omega
          have HT : Aside0 (b = ids.contains (i : Int)) := ⟨by rw [HBB.out, List.take_of_length_le (by have := HN.out; omega)]⟩
          cases b
          · by_cases hm : m < 0
            · have hm0 : decide (m < 0) = true := decide_eq_true hm
              have HM := Aside0.mk hm
              clear hm
              go_wp2
              go_roundg k1
              case measure => omega
              case rel => exact ⟨i + 1, q + 1, i, by have := HI1.out; omega, by go_num, rfl, by go_num, rfl, ⟨by rw [cntF, if_neg (by rw [← HT.out]; decide), HQ.out.1], by rw [leastF, if_neg (by rw [← HT.out]; decide), if_pos (by rw [← HQ.out.2]; exact HM.out)]⟩⟩
            · have hm0 : decide (m < 0) = false := decide_eq_false hm
              have HM := Aside0.mk hm
              clear hm
              go_wp2
              go_roundg k1
              case measure => omega
              case rel => exact ⟨i + 1, q + 1, m, by have := HI1.out; omega, by go_num, rfl, by go_num, rfl, ⟨by rw [cntF, if_neg (by rw [← HT.out]; decide), HQ.out.1], by rw [leastF, if_neg (by rw [← HT.out]; decide), if_neg (by have := HM.out; rw [← HQ.out.2]; omega), HQ.out.2]⟩⟩
          · go_wp2
            go_roundg k1
            case measure => omega
            case rel => exact ⟨i + 1, q, m, by have := HI1.out; omega, rfl, rfl, by go_num, rfl, ⟨by rw [cntF, if_pos HT.out.symm, HQ.out.1], by rw [leastF, if_pos HT.out.symm, HQ.out.2]⟩⟩
        | succ k2 =>
          have hjj : (j : Int) < (n : Int) := by omega
          have hlt : j < ids.length := by have := HN.out; omega
          obtain ⟨x, hx⟩ : ∃ x, ids[j]? = some x := ⟨_, List.getElem?_eq_getElem hlt⟩
          have HC := Aside0.mk (contains_take ids j x (i : Int) hx)
          obtain ⟨k, c2, hA, _, p0⟩ := HI.out.at j x hx
          injection hA with hA1 _ _
          subst hA1
          have HJ := Aside0.mk hj
          clear hj hlt hx
          cases b
          · by_cases hxi : x = (i : Int)
            · have hxi0 : (x == (i : Int)) = true := by simpa using hxi
              have HX := Aside0.mk hxi0
              clear hxi
              go_wp2
              go_roundg k2
              case measure => omega
              case rel => exact ⟨j + 1, true, by have := HJ.out; omega, rfl, by go_num, rfl, ⟨by rw [HC.out, HX.out]; simp⟩⟩
            · have hxi0 : (x == (i : Int)) = false := by simpa using hxi
              have HX := Aside0.mk hxi0
              clear hxi
              go_wp2
              go_roundg k2
              case measure => omega
              case rel => exact ⟨j + 1, false, by have := HJ.out; omega, rfl, by go_num, rfl, ⟨by rw [HC.out, HX.out, ← HBB.out]; rfl⟩⟩
          · go_wp2
            go_roundg k2
            case measure => omega
            case rel => exact ⟨j + 1, true, by have := HJ.out; omega, rfl, by go_num, rfl, ⟨by rw [HC.out, ← HBB.out]; rfl⟩⟩
end Go.Proofs.YtfiocakhgpdlfaaDoor.Sg

namespace Go.Proofs.YtfiocakhgpdlfaaDoor.Sg
open Go.RowKit Go.Lib Go.Proofs.YtfiocakhgpdlfaaDoor.Ap Go.Proofs.YtfiocakhgpdlfaaDoorW.PrintWords Go.Proofs.YtfiocakhgpdlfaaDoorW.PrintLast Go.Proofs.YtfiocakhgpdlfaaDoorW.PrintMore
set_option linter.unusedVariables false
set_option linter.unusedSimpArgs false

/-- what a function of the document's log may change -/
structure FrR (B : Nat) (w w' : World) : Prop where
  bel : Below B w w'
  frm : ∀ (k : Nat) (cs : Array Value) (t' : TypeId) (f : Nat × Nat), w.heap[k]? = some (.cells cs t' f) → t' ≠ 3 → t' ≠ 57 → w'.heap[k]? = some (.cells cs t' f)
theorem FrR.refl (B : Nat) (w : World) : FrR B w w := ⟨Below.refl B w, fun _ _ _ _ h _ _ => h⟩
theorem FrR.trans {B : Nat} {a b c : World} (h : FrR B a b) (k : FrR B b c) : FrR B a c := ⟨h.bel.trans k.bel, fun i cs t' f h1 h2 h3 => k.frm i cs t' f (h.frm i cs t' f h1 h2 h3) h2 h3⟩
theorem FrR.of {B : Nat} {w w' : World} (h : Below w.heap.size w w') (hB : B ≤ w.heap.size) : FrR B w w' := ⟨h.mono hB, fun _ _ _ _ h1 _ _ => Lb.blk_below h1 h⟩
theorem FrR.blk {B : Nat} {w w' : World} {g : Nat} {cs : Array Value} {t : TypeId} {f : Nat × Nat} (hb : w.heap[g]? = some (.cells cs t f)) (h : w.grownBy w' (some g)) (hB : B ≤ g) (ht : t = 3 ∨ t = 57) : FrR B w w' := by
  have hlt := blk_lt hb
  refine ⟨Lb.grown_below (Below.refl B w) h (by omega) hB, fun k cs' t' f' hk h4 h5 => types_blk hb h k cs' t' f' (fun e => ?_) hk⟩
  rcases ht with ht | ht
  · exact h4 (by rw [e, ht])
  · exact h5 (by rw [e, ht])
theorem own_lt {w : World} {B e n sz : Nat} {v : Value} {xs : List Value} (h : w.ownsRow B e sz v n xs) (k : Nat) (hk : v.ownBlock = some k) : B ≤ k ∧ k < w.heap.size := by
  obtain ⟨_, h2⟩ := h
  rcases h2 with ⟨h2, _⟩ | ⟨g, cap, row, e2, hge, hr, _⟩
  · rw [h2] at hk; cases hk
  · rw [e2] at hk
    injection hk with hk
    have hk' : g = k := hk
    subst hk'
    exact ⟨hge, blk_lt hr⟩
theorem own_far {w w' : World} {B e n sz : Nat} {v : Value} {xs : List Value} {r : Option Nat} (h : w.ownsRow B e sz v n xs) (hg : w.grownBy w' r) (hne : ∀ k, v.ownBlock = some k → r ≠ some k) : w'.ownsRow B e sz v n xs := by
  obtain ⟨h1, h2⟩ := h
  refine ⟨h1, ?_⟩
  rcases h2 with h2 | ⟨k, cap, row, e2, hge, hr, rest⟩
  · exact .inl h2
  · exact .inr ⟨k, cap, row, e2, hge, blk_grown hr hg (fun e3 => hne k (by rw [e2]; rfl) e3.symm), rest⟩
/-- the last of the numbers is stored -/
theorem IntsR.set {B : Nat} {w : World} {k n cap : Nat} {pre : List Int} {u : Int} (u' : Int) (h : IntsR B w (.slice (some ⟨k, 0, none⟩) n cap) (pre ++ [u])) :
    ∃ row : Array Value, w.heap[k]? = some (.cells row 3 (0, 0)) ∧ pre.length < row.size ∧ n = pre.length + 1 ∧ B ≤ k ∧ ∀ w' : World, w'.heap[k]? = some (.cells (row.setIfInBounds pre.length (.int .i64 u')) 3 (0, 0)) → IntsR B w' (.slice (some ⟨k, 0, none⟩) n cap) (pre ++ [u']) := by
  obtain ⟨h1, h2⟩ := h
  rcases h2 with ⟨h2, _⟩ | ⟨g, cap', cur, e, hB, hr, hn, hm, hs, ht⟩
  · cases h2
  · injection e with e1 e2 e3
    injection e1 with e1
    injection e1 with e1 _ _
    subst e1 e3
    have hl : (pre ++ [u]).length = pre.length + 1 := by simp
    have hl' : (pre ++ [u']).length = pre.length + 1 := by simp
    rw [hl] at e2 hn ht
    refine ⟨cur, hr, by omega, e2, hB, fun w' hw => ⟨?_, .inr ⟨k, cap, _, ?_, hB, hw, ?_, hm, ?_, ?_⟩⟩⟩
    · rw [hl', List.length_map, hl', Nat.mul_one]
    · rw [hl', e2]
    · rw [hl']; exact hn
    · rw [Array.size_setIfInBounds]; exact hs
    · rw [hl', Array.toList_setIfInBounds, List.take_set, ht, List.map_append, List.map_append, List.set_append, if_neg (by simp), List.length_map, Nat.sub_self]
      rfl

/-- what is known while a record is put into the document's log -/
structure RA (B : Nat) (w0 w : World) (g4 g : Nat) (R : Rl) (vI vU : Value) : Prop where
  log : RRaw B w g R vI vU
  rcd : w.heap[g4]? = some (.cells #[.int .i64 0, .int .i64 0, .string ⟨#[]⟩] 59 (0, 0))
  frm : FrR B w0 w
  ge : w0.heap.size ≤ g4
  le : B ≤ w0.heap.size
variable {B g4 g : Nat} {w0 w w' : World} {R : Rl} {vI vU v' : Value}
theorem RA.size (h : RA B w0 w g4 g R vI vU) : B ≤ w.heap.size := by have := blk_lt h.rcd; have := h.ge; have := h.le; omega
theorem RA.step (h : RA B w0 w g4 g R vI vU) (hb : Below w.heap.size w w') : RA B w0 w' g4 g R vI vU :=
  ⟨h.log.step hb, Lb.blk_below h.rcd hb, h.frm.trans (FrR.of hb h.size), h.ge, h.le⟩
/-- a cell of the log's own block is stored -/
theorem RA.put {R' : Rl} {vI' vU' : Value} (h : RA B w0 w g4 g R vI vU) (hw : w'.heap[g]? = some (.cells #[.int .i64 R'.segs, vI', vU', .int .i64 R'.seq, .int .i64 R'.boot, .int .i64 R'.serial] 57 (0, 0))) (hg : w.grownBy w' (some g))
    (hI : IntsR B w vI' R'.ids) (hU : IntsR B w vU' R'.used) (ha : ∀ k, vI'.ownBlock = some k → vU'.ownBlock ≠ some k) : RA B w0 w' g4 g R' vI' vU' := by
  have hk := types_blk h.log.blk hg
  exact ⟨⟨hw, own_keep hI (fun k cs f hr => hk _ _ _ _ (by decide) hr), own_keep hU (fun k cs f hr => hk _ _ _ _ (by decide) hr), h.log.ge, ha⟩, hk _ _ _ _ (by decide) h.rcd, h.frm.trans (FrR.blk h.log.blk hg h.log.ge (.inr rfl)), h.ge, h.le⟩
/-- the used part of the last segment is stored -/
theorem RA.last {k n cap : Nat} {pre : List Int} {u u' : Int} {segs : Nat} {ids : List Int} {seq boot serial : Int} {row : Array Value} (h : RA B w0 w g4 g ⟨segs, ids, pre ++ [u], seq, boot, serial⟩ vI (.slice (some ⟨k, 0, none⟩) n cap))
    (hr : w.heap[k]? = some (.cells row 3 (0, 0))) (hw : w'.heap[k]? = some (.cells (row.setIfInBounds pre.length (.int .i64 u')) 3 (0, 0))) (hg : w.grownBy w' (some k)) : RA B w0 w' g4 g ⟨segs, ids, pre ++ [u'], seq, boot, serial⟩ vI (.slice (some ⟨k, 0, none⟩) n cap) := by
  have hk := types_blk hr hg
  obtain ⟨row', e1, e2, e3, e4, e5⟩ := IntsR.set u' h.log.used
  rw [hr] at e1
  injection e1 with e1
  injection e1 with e1 _ _
  subst e1
  exact ⟨⟨hk _ _ _ _ (by decide) h.log.blk, own_far h.log.ids hg (fun q hq e => by injection e with e; exact h.log.apart q hq (by rw [← e]; rfl)), e5 _ hw, h.log.ge, h.log.apart⟩, hk _ _ _ _ (by decide) h.rcd, h.frm.trans (FrR.blk hr hg e4 (.inl rfl)), h.ge, h.le⟩
theorem RA.shut (h : RA B w0 w g4 g R vI vU) (hg : w.grownBy w' (some g4)) : RRaw B w' g R vI vU ∧ FrR B w0 w' := by
  have hk := types_blk h.rcd hg
  have hs := h.ge
  have hl := h.le
  exact ⟨⟨hk _ _ _ _ (by decide) h.log.blk, own_keep h.log.ids (fun k cs f hr => hk _ _ _ _ (by decide) hr), own_keep h.log.used (fun k cs f hr => hk _ _ _ _ (by decide) hr), h.log.ge, h.log.apart⟩,
    h.frm.bel.grown hg (Nat.le_trans hl h.frm.bel.size) (fun q hq => by injection hq with hq; omega), fun k cs t' f hk' h1 h2 => by
      have hlt := blk_lt hk'
      rw [hg.block k (by have := h.frm.bel.size; omega) (fun e => by injection e with e; omega)]
      exact h.frm.frm k cs t' f hk' h1 h2⟩

theorem parts_l0 : ∀ (k x c : Nat), x ≤ 233 * k → 1 ≤ k → c + k ≤ 100000 → x ≤ 100000 → PA.coracleref05_Parts.l0 k x c = some ((c + partsN x - 1 : Nat) : Int)
  | 0, _, _, _, h, _, _ => absurd h (by omega)
  | k + 1, x, c, h1, _, h3, h4 => by
    rw [PA.coracleref05_Parts.l0]
    by_cases h : (x : Int) > 233
    · have e1 : wrap64 ((x : Int) - 233) = ((x - 233 : Nat) : Int) := by unfold wrap64; omega
      have e2 : wrap64 ((c : Int) + 1) = ((c + 1 : Nat) : Int) := by unfold wrap64; omega
      rw [if_pos h, e1, e2, parts_l0 k (x - 233) (c + 1) (by omega) (by omega) (by omega) (by omega)]
      congr 2
      unfold partsN
      omega
    · rw [if_neg h]
      congr 2
      unfold partsN
      omega
theorem rparts_calls (n p : Nat) (hp : partsN n = p) (hn : n ≤ 3728) (w : World) : Calls Tryd.prog 49 #[.int .i64 n] w fun e w' => e = .returned (.int .i64 p) ∧ Below w.heap.size w w' := by
  subst hp
  refine (PA.coracleref05_Parts.calls 17 n (partsN n : Nat) w ?_).mono (fun e w' ⟨h1, h2⟩ => ⟨h1, h2.below⟩)
  have h := parts_l0 17 n 1 (by omega) (by omega) (by omega) (by omega)
  rw [show (1 + partsN n - 1 : Nat) = partsN n by omega] at h
  exact h
end Go.Proofs.YtfiocakhgpdlfaaDoor.Sg

namespace Go.Proofs.YtfiocakhgpdlfaaDoor.Sg
open Go.RowKit Go.Lib Go.Proofs.YtfiocakhgpdlfaaDoor.Ap Go.Proofs.YtfiocakhgpdlfaaDoorW.PrintWords Go.Proofs.YtfiocakhgpdlfaaDoorW.PrintLast Go.Proofs.YtfiocakhgpdlfaaDoorW.PrintMore
set_option linter.unusedVariables false
set_option linter.unusedSimpArgs false

theorem int_info : ((Tryd.prog).info? 3).map (fun i => (i.zero, i.size, i.bytes)) = some (some (.int .i64 0), 1, 8) := by kernel_rfl
theorem IntsR.len {B : Nat} {w : World} {v : Value} {l : List Int} {n : Nat} (h : IntsR B w v l) (hn : l.length = n) : w.ownsRow B 3 1 v n (l.map (Value.int .i64)) := hn ▸ h
theorem IntsR.back {B : Nat} {w : World} {v : Value} {l : List Int} {n : Nat} {x : Int} (h : w.ownsRow B 3 1 v n (l.map (Value.int .i64) ++ [.int .i64 x])) (hn : l.length + 1 = n) : IntsR B w v (l ++ [x]) := by
  subst hn
  show w.ownsRow B _ 1 v (l ++ [x]).length ((l ++ [x]).map (Value.int .i64))
  rw [List.length_append, List.map_append]
  exact h
variable {B g4 g : Nat} {w0 w w1 w2 : World} {vI vU v1 : Value} {segs : Nat} {ids used : List Int} {seq boot serial x : Int}
theorem RA.appI (h : RA B w0 w g4 g ⟨segs, ids, used, seq, boot, serial⟩ vI vU) (ho : IntsR B w1 v1 (ids ++ [x])) (hg : w.grownBy w1 vI.ownBlock) (hat : v1.ownBlock = vI.ownBlock ∨ ∃ b, v1.ownBlock = some b ∧ w.heap.size ≤ b) :
    w1.heap[g]? = some (.cells #[.int .i64 segs, vI, vU, .int .i64 seq, .int .i64 boot, .int .i64 serial] 57 (0, 0)) ∧
    ∀ w2 : World, w2.heap[g]? = some (.cells #[.int .i64 segs, v1, vU, .int .i64 seq, .int .i64 boot, .int .i64 serial] 57 (0, 0)) → w1.grownBy w2 (some g) → RA B w0 w2 g4 g ⟨segs, ids ++ [x], used, seq, boot, serial⟩ v1 vU := by
  have hk1 := types_of_grown h.log.ids hg
  have hb1 := hk1 _ _ _ _ (by decide) h.log.blk
  refine ⟨hb1, fun w2 hw hs => ?_⟩
  have hk2 := types_blk hb1 hs
  have hF1 : FrR B w w1 := ⟨below_of_grown h.log.ids (Below.refl B w) h.size hg, fun k cs t' f hk hne _ => hk1 k cs t' f hne hk⟩
  have hF2 := FrR.blk hb1 hs h.log.ge (.inr rfl)
  refine ⟨⟨hw, own_keep ho (fun k cs f hr => hk2 _ _ _ _ (by decide) hr), own_keep (own_far h.log.used hg (fun k hk e => h.log.apart k e hk)) (fun k cs f hr => hk2 _ _ _ _ (by decide) hr), h.log.ge, fun k hk e => ?_⟩, hk2 _ _ _ _ (by decide) (hk1 _ _ _ _ (by decide) h.rcd), h.frm.trans (hF1.trans hF2), h.ge, h.le⟩
  rcases hat with hat | ⟨b, hb, hle⟩
  · exact h.log.apart k (by rw [← hat]; exact hk) e
  · have := (own_lt h.log.used k e).2
    rw [hb] at hk
    injection hk with hk
    omega
theorem RA.appU (h : RA B w0 w g4 g ⟨segs, ids, used, seq, boot, serial⟩ vI vU) (ho : IntsR B w1 v1 (used ++ [x])) (hg : w.grownBy w1 vU.ownBlock) (hat : v1.ownBlock = vU.ownBlock ∨ ∃ b, v1.ownBlock = some b ∧ w.heap.size ≤ b) :
    w1.heap[g]? = some (.cells #[.int .i64 segs, vI, vU, .int .i64 seq, .int .i64 boot, .int .i64 serial] 57 (0, 0)) ∧
    ∀ w2 : World, w2.heap[g]? = some (.cells #[.int .i64 segs, vI, v1, .int .i64 seq, .int .i64 boot, .int .i64 serial] 57 (0, 0)) → w1.grownBy w2 (some g) → RA B w0 w2 g4 g ⟨segs, ids, used ++ [x], seq, boot, serial⟩ vI v1 := by
  have hk1 := types_of_grown h.log.used hg
  have hb1 := hk1 _ _ _ _ (by decide) h.log.blk
  refine ⟨hb1, fun w2 hw hs => ?_⟩
  have hk2 := types_blk hb1 hs
  have hF1 : FrR B w w1 := ⟨below_of_grown h.log.used (Below.refl B w) h.size hg, fun k cs t' f hk hne _ => hk1 k cs t' f hne hk⟩
  have hF2 := FrR.blk hb1 hs h.log.ge (.inr rfl)
  refine ⟨⟨hw, own_keep (own_far h.log.ids hg (fun k hk e => h.log.apart k hk e)) (fun k cs f hr => hk2 _ _ _ _ (by decide) hr), own_keep ho (fun k cs f hr => hk2 _ _ _ _ (by decide) hr), h.log.ge, fun k hk e => ?_⟩, hk2 _ _ _ _ (by decide) (hk1 _ _ _ _ (by decide) h.rcd), h.frm.trans (hF1.trans hF2), h.ge, h.le⟩
  rcases hat with hat | ⟨b, hb, hle⟩
  · exact h.log.apart k hk (by rw [← hat]; exact e)
  · have := (own_lt h.log.ids k hk).2
    rw [hb] at e
    injection e with e
    omega
/-- the cells that a record's step reads -/
theorem RA.cells {pi pu : List Int} {u : Int} {kI kU n cI cU M : Nat} (h : RA B w0 w g4 g ⟨segs, pi ++ [x], pu ++ [u], seq, boot, serial⟩ (.slice (some ⟨kI, 0, none⟩) n cI) (.slice (some ⟨kU, 0, none⟩) n cU)) (hI : M = pi.length) (hU : M = pu.length) :
    w.cell? ⟨g, 0, none⟩ = some (.int .i64 segs) ∧ w.cell? ⟨g, 1, none⟩ = some (.slice (some ⟨kI, 0, none⟩) n cI) ∧ w.cell? ⟨g, 2, none⟩ = some (.slice (some ⟨kU, 0, none⟩) n cU) ∧ w.cell? ⟨g, 3, none⟩ = some (.int .i64 seq) ∧ w.cell? ⟨kI, M, none⟩ = some (.int .i64 x) ∧ w.cell? ⟨kU, M, none⟩ = some (.int .i64 u) := by
  obtain ⟨c0, c1, c2, c3, -, -⟩ := h.log.cells
  obtain ⟨k, cap, e, _, q0⟩ := h.log.ids.at M x (by rw [hI]; simp)
  injection e with e1 _ _
  injection e1 with e1
  injection e1 with e1 _ _
  subst e1
  obtain ⟨k, cap, e, _, q1⟩ := h.log.used.at M u (by rw [hU]; simp)
  injection e with e1 _ _
  injection e1 with e1
  injection e1 with e1 _ _
  subst e1
  exact ⟨c0, c1, c2, c3, q0, q1⟩
end Go.Proofs.YtfiocakhgpdlfaaDoor.Sg
