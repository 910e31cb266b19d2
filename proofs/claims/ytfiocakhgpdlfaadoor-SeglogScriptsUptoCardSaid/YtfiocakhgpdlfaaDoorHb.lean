/- A disk in memory; its small functions. The disk's walks: losing the queue, crashing, flushing. The disk's walks: crashing, flushing, writing. The disk's walks: writing, reading, making. The disk's walks: reading, making. -/
import Derived.Test.YtfiocakhgpdlfaaDoorEv
import Derived.Test.YtfiocakhgpdlfaaDoorHa
import Derived.Test.YtfiocakhgpdlfaaDoorPAx0
import Derived.RegionTactic
import Derived.KernelRfl
import Derived.StillTailTactics
import Derived.Deep.RegionLaw
import Derived.Laws.CopyRow
import Derived.Lib.SlBuf
import Derived.Lib.LazyBuf
import Derived.Lib.Hide
import Derived.Lib.MinMax
import Derived.Laws.AppendOwn
import Derived.Test.YtfiocakhgpdlfaaDoorAp
import Derived.Test.YtfiocakhgpdlfaaDoorSh
namespace Go.Proofs.YtfiocakhgpdlfaaDoor.Sg
open Go.RowKit Go.Lib Go.Proofs.YtfiocakhgpdlfaaDoorW.PrintWords Go.Proofs.YtfiocakhgpdlfaaDoorW.PrintLast Go.Proofs.YtfiocakhgpdlfaaDoorW.PrintMore
set_option linter.unusedVariables false
set_option linter.unusedSimpArgs false

def strs (l : List ByteArray) : Array Value := (l.map Value.string).toArray
def flatQ : List Wr → List Value
  | [] => []
  | x :: r => .int .i64 x.n :: .string x.data :: flatQ r
theorem flatQ_length : ∀ l : List Wr, (flatQ l).length = l.length * 2
  | [] => rfl
  | x :: r => by simp only [flatQ, List.length_cons, flatQ_length r]; omega
theorem flatQ_app (a b : List Wr) : flatQ (a ++ b) = flatQ a ++ flatQ b := by
  induction a with
  | nil => rfl
  | cons x r ih => simp [flatQ, ih]
theorem flatQ_at : ∀ (l : List Wr) (i : Nat) (x : Wr), l[i]? = some x → (flatQ l)[i * 2]? = some (.int .i64 x.n) ∧ (flatQ l)[i * 2 + 1]? = some (.string x.data)
  | [], i, _, h => by simp at h
  | y :: r, 0, x, h => by
    simp at h
    subst h
    exact ⟨rfl, rfl⟩
  | y :: r, i + 1, x, h => by
    have ih := flatQ_at r i x (by simpa using h)
    have e1 : (i + 1) * 2 = i * 2 + 1 + 1 := by omega
    rw [e1]
    exact ih

/-- a disk that may be -/
structure Dk.Ok (d : Dk) : Prop where
  len : d.last.length = d.now.length
  pos : 1 ≤ d.now.length
  le : d.now.length ≤ 1026
  nsz : ∀ s ∈ d.now, s.size ≤ 256
  lsz : ∀ s ∈ d.last, s.size ≤ 256
  que : ∀ x ∈ d.queue, x.n < d.now.length ∧ x.data.size ≤ 256
  left : d.left ≤ 9223372036854775807
/-- the cells of a disk -/
def dkCells (d : Dk) (kL kN : Nat) (vQ : Value) (wr fl : Int) : Array Value :=
  #[.slice (some ⟨kL, 0, none⟩) d.now.length d.now.length, .slice (some ⟨kN, 0, none⟩) d.now.length d.now.length, vQ, .int .i64 d.left, .int .i64 d.keep, .bool d.off, .int .i64 wr, .int .i64 fl]
/-- a disk in memory, its rows and counters told -/
structure DRaw (B : Nat) (w : World) (g : Nat) (d : Dk) (kL kN : Nat) (vQ : Value) (wr fl : Int) : Prop where
  blk : w.heap[g]? = some (.cells (dkCells d kL kN vQ wr fl) 75 (0, 0))
  own : w.ownsRow B 104 2 vQ d.queue.length (flatQ d.queue)
  lst : w.heap[kL]? = some (.cells (strs d.last) 9 (0, 0))
  nw : w.heap[kN]? = some (.cells (strs d.now) 9 (0, 0))
  hL : B ≤ kL
  hN : B ≤ kN
  ne : kL ≠ kN
  ge : B ≤ g
  ok : d.Ok
/-- a disk in memory -/
def DAt (B : Nat) (w : World) (g : Nat) (d : Dk) : Prop := ∃ kL kN vQ wr fl, DRaw B w g d kL kN vQ wr fl
/-- what a disk's functions leave alone -/
structure FrS (B : Nat) (w w' : World) : Prop where
  bel : Below B w w'
  frm : ∀ (k : Nat) (cs : Array Value) (t' : TypeId) (f : Nat × Nat), w.heap[k]? = some (.cells cs t' f) → t' ≠ 75 → t' ≠ 104 → t' ≠ 9 → w'.heap[k]? = some (.cells cs t' f)
theorem FrS.refl (B : Nat) (w : World) : FrS B w w := ⟨Below.refl B w, fun _ _ _ _ h _ _ _ => h⟩
theorem FrS.trans {B : Nat} {a b c : World} (h : FrS B a b) (k : FrS B b c) : FrS B a c := ⟨h.bel.trans k.bel, fun i cs t' f h1 h2 h3 h4 => k.frm i cs t' f (h.frm i cs t' f h1 h2 h3 h4) h2 h3 h4⟩
theorem FrS.of {B : Nat} {w w' : World} (h : Below w.heap.size w w') (hB : B ≤ w.heap.size) : FrS B w w' := ⟨h.mono hB, fun _ _ _ _ h1 _ _ _ => Lb.blk_below h1 h⟩
theorem FrS.size {B : Nat} {w w' : World} (h : FrS B w w') : w.heap.size ≤ w'.heap.size := h.bel.size
/-- a store into a block of one of the disk's types -/
theorem FrS.blk {B : Nat} {w w' : World} {g : Nat} {cs : Array Value} {t : TypeId} {f : Nat × Nat} (hb : w.heap[g]? = some (.cells cs t f)) (h : w.grownBy w' (some g)) (hB : B ≤ g) (ht : t = 75 ∨ t = 104 ∨ t = 9) : FrS B w w' := by
  have hlt := blk_lt hb
  refine ⟨Lb.grown_below (Below.refl B w) h (by omega) hB, fun k cs' t' f' hk h1 h2 h3 => ?_⟩
  refine Lb.blk_grown' hk h fun e => ?_
  rw [e, hb] at hk
  injection hk with hk
  injection hk with _ e2 _
  rcases ht with ht | ht | ht <;> simp_all
theorem own_keep {w w' : World} {B e n sz : Nat} {v : Value} {xs : List Value} (ho : w.ownsRow B e sz v n xs) (hk : ∀ (k : Nat) (cs : Array Value) (f : Nat × Nat), w.heap[k]? = some (.cells cs e f) → w'.heap[k]? = some (.cells cs e f)) : w'.ownsRow B e sz v n xs := by
  obtain ⟨h1, h2⟩ := ho
  refine ⟨h1, ?_⟩
  rcases h2 with h2 | ⟨k, cap, row, e2, hge, hr, rest⟩
  · exact .inl h2
  · exact .inr ⟨k, cap, row, e2, hge, hk _ _ _ hr, rest⟩
theorem DRaw.keep {B : Nat} {w w' : World} {g : Nat} {d : Dk} {kL kN : Nat} {vQ : Value} {wr fl : Int} (h : DRaw B w g d kL kN vQ wr fl) (hk : ∀ (k : Nat) (cs : Array Value) (t' : TypeId) (f : Nat × Nat), t' = 75 ∨ t' = 104 ∨ t' = 9 → w.heap[k]? = some (.cells cs t' f) → w'.heap[k]? = some (.cells cs t' f)) : DRaw B w' g d kL kN vQ wr fl :=
  ⟨hk _ _ _ _ (.inl rfl) h.blk, own_keep h.own (fun k cs f hr => hk _ _ _ _ (.inr (.inl rfl)) hr), hk _ _ _ _ (.inr (.inr rfl)) h.lst, hk _ _ _ _ (.inr (.inr rfl)) h.nw, h.hL, h.hN, h.ne, h.ge, h.ok⟩
theorem DRaw.step {B : Nat} {w w' : World} {g : Nat} {d : Dk} {kL kN : Nat} {vQ : Value} {wr fl : Int} (h : DRaw B w g d kL kN vQ wr fl) (hb : Below w.heap.size w w') : DRaw B w' g d kL kN vQ wr fl := h.keep fun k cs t' f _ hr => Lb.blk_below hr hb
theorem DAt.step {B : Nat} {w w' : World} {g : Nat} {d : Dk} (h : DAt B w g d) (hb : Below w.heap.size w w') : DAt B w' g d := by
  obtain ⟨kL, kN, vQ, wr, fl, h⟩ := h
  exact ⟨kL, kN, vQ, wr, fl, h.step hb⟩
theorem DRaw.lt {B : Nat} {w : World} {g : Nat} {d : Dk} {kL kN : Nat} {vQ : Value} {wr fl : Int} (h : DRaw B w g d kL kN vQ wr fl) : B ≤ w.heap.size := by have := blk_lt h.blk; have := h.ge; omega
theorem DAt.lt {B : Nat} {w : World} {g : Nat} {d : Dk} (h : DAt B w g d) : B ≤ w.heap.size := by
  obtain ⟨kL, kN, vQ, wr, fl, h⟩ := h
  exact h.lt
theorem DAt.ok {B : Nat} {w : World} {g : Nat} {d : Dk} (h : DAt B w g d) : d.Ok := by
  obtain ⟨kL, kN, vQ, wr, fl, h⟩ := h
  exact h.ok
theorem types_blk {w w' : World} {g : Nat} {cur : Array Value} {t : TypeId} {fr : Nat × Nat} (hb : w.heap[g]? = some (.cells cur t fr)) (h : w.grownBy w' (some g)) : ∀ (k : Nat) (cs : Array Value) (t' : TypeId) (f : Nat × Nat), t' ≠ t → w.heap[k]? = some (.cells cs t' f) → w'.heap[k]? = some (.cells cs t' f) := fun k cs t' f hne hk => by
  refine Lb.blk_grown' hk h (fun e => ?_)
  rw [e, hb] at hk
  injection hk with hk
  injection hk with _ e2 _
  exact hne e2.symm
/-- another block of another type is stored into -/
theorem DAt.other {B : Nat} {w w' : World} {g g' : Nat} {d : Dk} {cs : Array Value} {t : TypeId} {f : Nat × Nat} (h : DAt B w g d) (hb : w.heap[g']? = some (.cells cs t f)) (hg : w.grownBy w' (some g')) (h1 : t ≠ 75) (h2 : t ≠ 104) (h3 : t ≠ 9) : DAt B w' g d := by
  obtain ⟨kL, kN, vQ, wr, fl, h⟩ := h
  exact ⟨kL, kN, vQ, wr, fl, h.keep fun k cs' t' f' ht hr => types_blk hb hg _ _ _ _ (by rcases ht with e | e | e <;> rw [e] <;> exact fun e => by simp_all) hr⟩
theorem own_cells {w : World} {B e n sz : Nat} {v : Value} {xs : List Value} (h : w.ownsRow B e sz v n xs) : v.cells = #[v] ∧ v.oneCell' = true := by
  obtain ⟨_, h2⟩ := h
  rcases h2 with ⟨h2, _⟩ | ⟨k, cap, row, e2, _⟩
  · rw [h2]; exact ⟨rfl, rfl⟩
  · rw [e2]; exact ⟨rfl, rfl⟩
/-- the disk's own block has turned -/
theorem DRaw.put {B : Nat} {w w' : World} {g : Nat} {d d' : Dk} {kL kN : Nat} {vQ vQ' : Value} {wr wr' fl fl' : Int} (h : DRaw B w g d kL kN vQ wr fl) (hq : w.ownsRow B 104 2 vQ' d'.queue.length (flatQ d'.queue)) (h1 : d'.last = d.last) (h2 : d'.now = d.now) (hok : d'.Ok)
    (hb : w'.heap[g]? = some (.cells (dkCells d' kL kN vQ' wr' fl') 75 (0, 0))) (hg : w.grownBy w' (some g)) : DRaw B w' g d' kL kN vQ' wr' fl' ∧ FrS B w w' := by
  have hk := types_blk h.blk hg
  exact ⟨⟨hb, own_keep hq (fun k cs f hr => hk _ _ _ _ (by decide) hr), by rw [h1]; exact hk _ _ _ _ (by decide) h.lst, by rw [h2]; exact hk _ _ _ _ (by decide) h.nw, h.hL, h.hN, h.ne, h.ge, hok⟩, FrS.blk h.blk hg h.ge (.inl rfl)⟩
theorem DRaw.cells {B : Nat} {w : World} {g : Nat} {d : Dk} {kL kN : Nat} {vQ : Value} {wr fl : Int} (h : DRaw B w g d kL kN vQ wr fl) :
    w.cell? ⟨g, 0, none⟩ = some (.slice (some ⟨kL, 0, none⟩) d.now.length d.now.length) ∧ w.cell? ⟨g, 1, none⟩ = some (.slice (some ⟨kN, 0, none⟩) d.now.length d.now.length) ∧ w.cell? ⟨g, 2, none⟩ = some vQ ∧ w.cell? ⟨g, 3, none⟩ = some (.int .i64 d.left) ∧
    w.cell? ⟨g, 4, none⟩ = some (.int .i64 d.keep) ∧ w.cell? ⟨g, 5, none⟩ = some (.bool d.off) ∧ w.cell? ⟨g, 6, none⟩ = some (.int .i64 wr) ∧ w.cell? ⟨g, 7, none⟩ = some (.int .i64 fl) :=
  ⟨(blk_cell h.blk 0).trans rfl, (blk_cell h.blk 1).trans rfl, (blk_cell h.blk 2).trans rfl, (blk_cell h.blk 3).trans rfl, (blk_cell h.blk 4).trans rfl, (blk_cell h.blk 5).trans rfl, (blk_cell h.blk 6).trans rfl, (blk_cell h.blk 7).trans rfl⟩
theorem dk_set0 (d : Dk) (kL kN : Nat) (vQ u : Value) (wr fl : Int) : (dkCells d kL kN vQ wr fl).setIfInBounds 2 u = dkCells d kL kN u wr fl := rfl
theorem dk_set3 (d : Dk) (kL kN : Nat) (vQ : Value) (wr fl : Int) (l : Nat) : (dkCells d kL kN vQ wr fl).setIfInBounds 3 (.int .i64 l) = dkCells { d with left := l } kL kN vQ wr fl := rfl
theorem dk_set4 (d : Dk) (kL kN : Nat) (vQ : Value) (wr fl k : Int) : (dkCells d kL kN vQ wr fl).setIfInBounds 4 (.int .i64 k) = dkCells { d with keep := k } kL kN vQ wr fl := rfl
theorem dk_set5 (d : Dk) (kL kN : Nat) (vQ : Value) (wr fl : Int) (b : Bool) : (dkCells d kL kN vQ wr fl).setIfInBounds 5 (.bool b) = dkCells { d with off := b } kL kN vQ wr fl := rfl
theorem dk_set6 (d : Dk) (kL kN : Nat) (vQ : Value) (wr fl k : Int) : (dkCells d kL kN vQ wr fl).setIfInBounds 6 (.int .i64 k) = dkCells d kL kN vQ k fl := rfl
theorem dk_set7 (d : Dk) (kL kN : Nat) (vQ : Value) (wr fl k : Int) : (dkCells d kL kN vQ wr fl).setIfInBounds 7 (.int .i64 k) = dkCells d kL kN vQ wr k := rfl
theorem DRaw.set3 {B : Nat} {w w' : World} {g : Nat} {d : Dk} {kL kN : Nat} {vQ : Value} {wr fl : Int} {l : Nat} (h : DRaw B w g d kL kN vQ wr fl) (hl : l ≤ 9223372036854775807)
    (hb : w'.heap[g]? = some (.cells ((dkCells d kL kN vQ wr fl).setIfInBounds 3 (.int .i64 l)) 75 (0, 0))) (hg : w.grownBy w' (some g)) : DRaw B w' g { d with left := l } kL kN vQ wr fl ∧ FrS B w w' :=
  h.put (d' := { d with left := l }) h.own rfl rfl ⟨h.ok.len, h.ok.pos, h.ok.le, h.ok.nsz, h.ok.lsz, h.ok.que, hl⟩ hb hg
theorem DRaw.set4 {B : Nat} {w w' : World} {g : Nat} {d : Dk} {kL kN : Nat} {vQ : Value} {wr fl : Int} {k : Int} (h : DRaw B w g d kL kN vQ wr fl)
    (hb : w'.heap[g]? = some (.cells ((dkCells d kL kN vQ wr fl).setIfInBounds 4 (.int .i64 k)) 75 (0, 0))) (hg : w.grownBy w' (some g)) : DRaw B w' g { d with keep := k } kL kN vQ wr fl ∧ FrS B w w' :=
  h.put (d' := { d with keep := k }) h.own rfl rfl ⟨h.ok.len, h.ok.pos, h.ok.le, h.ok.nsz, h.ok.lsz, h.ok.que, h.ok.left⟩ hb hg
theorem DRaw.set5 {B : Nat} {w w' : World} {g : Nat} {d : Dk} {kL kN : Nat} {vQ : Value} {wr fl : Int} {b : Bool} (h : DRaw B w g d kL kN vQ wr fl)
    (hb : w'.heap[g]? = some (.cells ((dkCells d kL kN vQ wr fl).setIfInBounds 5 (.bool b)) 75 (0, 0))) (hg : w.grownBy w' (some g)) : DRaw B w' g { d with off := b } kL kN vQ wr fl ∧ FrS B w w' :=
  h.put (d' := { d with off := b }) h.own rfl rfl ⟨h.ok.len, h.ok.pos, h.ok.le, h.ok.nsz, h.ok.lsz, h.ok.que, h.ok.left⟩ hb hg
theorem DRaw.set6 {B : Nat} {w w' : World} {g : Nat} {d : Dk} {kL kN : Nat} {vQ : Value} {wr fl k : Int} (h : DRaw B w g d kL kN vQ wr fl)
    (hb : w'.heap[g]? = some (.cells ((dkCells d kL kN vQ wr fl).setIfInBounds 6 (.int .i64 k)) 75 (0, 0))) (hg : w.grownBy w' (some g)) : DRaw B w' g d kL kN vQ k fl ∧ FrS B w w' := h.put h.own rfl rfl h.ok hb hg
theorem DRaw.set7 {B : Nat} {w w' : World} {g : Nat} {d : Dk} {kL kN : Nat} {vQ : Value} {wr fl k : Int} (h : DRaw B w g d kL kN vQ wr fl)
    (hb : w'.heap[g]? = some (.cells ((dkCells d kL kN vQ wr fl).setIfInBounds 7 (.int .i64 k)) 75 (0, 0))) (hg : w.grownBy w' (some g)) : DRaw B w' g d kL kN vQ wr k ∧ FrS B w w' := h.put h.own rfl rfl h.ok hb hg
/-- the queue is let go -/
theorem DRaw.setQ {B : Nat} {w w' : World} {g : Nat} {d : Dk} {kL kN : Nat} {vQ : Value} {wr fl : Int} (h : DRaw B w g d kL kN vQ wr fl)
    (hb : w'.heap[g]? = some (.cells ((dkCells d kL kN vQ wr fl).setIfInBounds 2 (.slice none 0 0)) 75 (0, 0))) (hg : w.grownBy w' (some g)) : DRaw B w' g { d with queue := [] } kL kN (.slice none 0 0) wr fl ∧ FrS B w w' :=
  h.put (d' := { d with queue := [] }) ⟨rfl, .inl ⟨rfl, rfl⟩⟩ rfl rfl ⟨h.ok.len, h.ok.pos, h.ok.le, h.ok.nsz, h.ok.lsz, by simp, h.ok.left⟩ hb hg
theorem dptr_eq (g : Nat) (w : World) : (binOp .eql 24 (.pointer (some ⟨g, 0, none⟩)) (.pointer none)).run Tryd.prog w = .ok (.bool false) w := by kernel_rfl
theorem dptr_ne (g : Nat) (w : World) : (binOp .neq 24 (.pointer (some ⟨g, 0, none⟩)) (.pointer none)).run Tryd.prog w = .ok (.bool true) w := by kernel_rfl

theorem size_calls (B g : Nat) (d : Dk) (w : World) (h : DAt B w g d) : Calls Tryd.prog 51 #[.pointer (some ⟨g, 0, none⟩)] w fun e w' => e = .returned (.int .i64 d.now.length) ∧ w = w' := by
  obtain ⟨kL, kN, vQ, wr, fl, h⟩ := h
  have hp := dptr_eq g
  have hle := h.ok.le
  obtain ⟨-, c1, -⟩ := h.cells
  clear h
  go_enter Tryd.func51, Tryd.ntmps51
  go_wp2
  go_ret
  exact ⟨rfl, rfl⟩

theorem off_calls (B g : Nat) (d : Dk) (w : World) (h : DAt B w g d) : Calls Tryd.prog 20 #[.pointer (some ⟨g, 0, none⟩)] w fun e w' => e = .returned (.bool d.off) ∧ w = w' := by
  obtain ⟨kL, kN, vQ, wr, fl, h⟩ := h
  have hp := dptr_ne g
  obtain ⟨-, -, -, -, -, c5, -⟩ := h.cells
  clear h
  go_enter Tryd.func20, Tryd.ntmps20
  go_wp2
  go_ret
  exact ⟨rfl, rfl⟩
theorem tick_zero {d : Dk} (h : d.left = 0) : d.tick = d := by obtain ⟨a, b, c, l, k, o⟩ := d; simp only at h; subst h; rfl

theorem torn_raw (B g : Nat) (d : Dk) (kL kN : Nat) (vQ : Value) (wr fl : Int) (w : World) (h : DRaw B w g d kL kN vQ wr fl) :
    Calls Tryd.prog 52 #[.pointer (some ⟨g, 0, none⟩)] w fun e w' => e = .returned (.bool d.torn) ∧ DRaw B w' g d.tick kL kN vQ wr fl ∧ FrS B w w' := by
  have H := Aside0.mk h
  by_cases hz : d.left = 0
  · have ht : d.torn = false := by simp [Dk.torn, hz]
    rw [tick_zero hz, ht]
    have c3 : w.cell? ⟨g, 3, none⟩ = some (.int .i64 0) := h.cells.2.2.2.1.trans (by rw [hz]; rfl)
    clear h hz ht
    go_enter Tryd.func52, Tryd.ntmps52
    go_wp2
    go_ret
    exact ⟨rfl, H.out, FrS.refl _ _⟩
  · have hle := h.ok.left
    obtain ⟨m, hm⟩ : ∃ m, d.left = m + 1 := ⟨d.left - 1, by omega⟩
    have hd : Aside0 (({ d with left := m } : Dk) = d.tick) := ⟨by unfold Dk.tick; rw [hm]; rfl⟩
    have ht : Aside0 (Ending.returned (.bool ((m : Int) == 0)) = .returned (.bool d.torn)) := ⟨by unfold Dk.torn; rw [hm]; congr 2; rw [Bool.eq_iff_iff]; simp⟩
    have c3 : w.cell? ⟨g, 3, none⟩ = some (.int .i64 ((m + 1 : Nat) : Int)) := by rw [h.cells.2.2.2.1, hm]
    have hne : ((m : Int) + 1 == 0) = false := by rw [beq_eq_false_iff_ne]; omega
    have hle' : m + 1 ≤ 9223372036854775807 := by omega
    clear h hz hle hm
    go_enter Tryd.func52, Tryd.ntmps52
    go_wp2_with (first
      | ((with_reducible refine gate_store (t := 3) (p := 17) rfl ?_); refine Lb.store_one rfl rfl 3 (.tmp 17) (.tmp 14) rfl (g := g) (off := 3) (u := .int .i64 m) rfl rfl rfl rfl H.out.blk (by kernel_rfl) (show 3 < 8 by decide) ?_; intro w1 hb hg; have HR := Aside0.mk (H.out.set3 (by omega) hb hg); have c3'' : w1.cell? ⟨g, 3, none⟩ = some (.int .i64 m) := HR.out.1.cells.2.2.2.1; clear hb hg c3))
    go_ret
    exact ⟨ht.out, by rw [← hd.out]; exact HR.out.1, HR.out.2⟩

theorem on_calls (B g : Nat) (d : Dk) (w : World) (h : DAt B w g d) : Calls Tryd.prog 21 #[.pointer (some ⟨g, 0, none⟩)] w fun e w' => e = .returned (.tuple #[]) ∧ DAt B w' g d.on ∧ FrS B w w' := by
  obtain ⟨kL, kN, vQ, wr, fl, h⟩ := h
  have hp := dptr_ne g
  have H := Aside0.mk h
  clear h
  go_enter Tryd.func21, Tryd.ntmps21
  go_wp2_with (first
    | ((with_reducible refine gate_store (t := 4) (p := 6) rfl ?_); refine Lb.store_one rfl rfl 4 (.tmp 6) (.const (.bool false)) rfl (g := g) (off := 5) (u := .bool false) rfl rfl rfl rfl H.out.blk (by kernel_rfl) (show 5 < 8 by decide) ?_; intro w1 hb hg; have H1 := Aside0.mk (H.out.set5 hb hg); clear hb hg)
    | ((with_reducible refine gate_store (t := 3) (p := 10) rfl ?_); refine Lb.store_one rfl rfl 3 (.tmp 10) (.const (.int .i64 0)) rfl (g := g) (off := 3) (u := .int .i64 ((0 : Nat) : Int)) rfl rfl rfl rfl H1.out.1.blk (by kernel_rfl) (show 3 < 8 by decide) ?_; intro w2 hb hg; have H2 := Aside0.mk (H1.out.1.set3 (by omega) hb hg); clear hb hg))
  go_end0
  exact ⟨rfl, ⟨_, _, _, _, _, H2.out.1⟩, H1.out.2.trans H2.out.2⟩

theorem cut_calls (B g : Nat) (d : Dk) (n k : Int) (hn : n ≤ 9223372036854775807) (w : World) (h : DAt B w g d) : Calls Tryd.prog 16 #[.pointer (some ⟨g, 0, none⟩), .int .i64 n, .int .i64 k] w fun e w' => e = .returned (.tuple #[]) ∧ DAt B w' g (d.cut n k) ∧ FrS B w w' := by
  obtain ⟨kL, kN, vQ, wr, fl, h⟩ := h
  have hp := dptr_ne g
  have H := Aside0.mk h
  obtain ⟨m, hm⟩ : ∃ m : Nat, max n 1 = (m : Int) := ⟨(max n 1).toNat, by omega⟩
  have HM := Aside0.mk (show m ≤ 9223372036854775807 ∧ ({ { d with left := m } with keep := k } : Dk) = d.cut n k from ⟨by omega, by unfold Dk.cut; rw [hm]; simp⟩)
  have HMX := Aside0.mk hm
  clear hm
  clear h
  go_enter Tryd.func16, Tryd.ntmps16
  go_wp2_with (first
    | ((with_reducible refine gate_store (t := 3) (p := 15) rfl ?_); refine Lb.store_one rfl rfl 3 (.tmp 15) (.tmp 11) rfl (g := g) (off := 3) (u := .int .i64 (max n 1)) rfl rfl rfl rfl H.out.blk (by kernel_rfl) (show 3 < 8 by decide) ?_; intro w1 hb hg; rw [HMX.out] at hb; have H1 := Aside0.mk (H.out.set3 HM.out.1 hb hg); clear hb hg)
    | ((with_reducible refine gate_store (t := 3) (p := 18) rfl ?_); refine Lb.store_one rfl rfl 3 (.tmp 18) (.tmp 12) rfl (g := g) (off := 4) (u := .int .i64 k) rfl rfl rfl rfl H1.out.1.blk (by kernel_rfl) (show 4 < 8 by decide) ?_; intro w2 hb hg; have H2 := Aside0.mk (H1.out.1.set4 hb hg); clear hb hg))
  go_end0
  exact ⟨rfl, ⟨_, _, _, _, _, HM.out.2 ▸ H2.out.1⟩, H1.out.2.trans H2.out.2⟩
end Go.Proofs.YtfiocakhgpdlfaaDoor.Sg

namespace Go.Proofs.YtfiocakhgpdlfaaDoor.Sg
open Go.RowKit Go.Lib Go.Proofs.YtfiocakhgpdlfaaDoorW.PrintWords Go.Proofs.YtfiocakhgpdlfaaDoorW.PrintLast Go.Proofs.YtfiocakhgpdlfaaDoorW.PrintMore
set_option linter.unusedVariables false
set_option linter.unusedSimpArgs false

theorem loseL_snoc (keep : Int) (x : Wr) : ∀ (q : List Wr) (i : Nat) (l : List ByteArray), loseL keep (q ++ [x]) i l = if kb keep (i + q.length) then (loseL keep q i l).set x.n x.data else loseL keep q i l
  | [], i, l => rfl
  | y :: q, i, l => by
    rw [List.cons_append, loseL, loseL, loseL_snoc keep x q (i + 1), List.length_cons, show i + 1 + q.length = i + (q.length + 1) by omega]
theorem loseL_take (keep : Int) (q : List Wr) (l : List ByteArray) (i : Nat) (h : i < q.length) : loseL keep (q.take (i + 1)) 0 l = if kb keep i then (loseL keep (q.take i) 0 l).set (q[i]).n (q[i]).data else loseL keep (q.take i) 0 l := by
  rw [List.take_succ_eq_append_getElem h, loseL_snoc, List.length_take, Nat.zero_add, Nat.min_eq_left (by omega)]
theorem loseL_len (keep : Int) : ∀ (q : List Wr) (i : Nat) (l : List ByteArray), (loseL keep q i l).length = l.length
  | [], _, _ => rfl
  | x :: q, i, l => by rw [loseL, loseL_len keep q]; split <;> simp
theorem loseL_sizes (keep : Int) : ∀ (q : List Wr) (i : Nat) (l : List ByteArray), (∀ x ∈ q, x.data.size ≤ 256) → (∀ s ∈ l, s.size ≤ 256) → ∀ s ∈ loseL keep q i l, s.size ≤ 256
  | [], _, _, _, h => h
  | x :: q, i, l, hq, h => by
    rw [loseL]
    refine loseL_sizes keep q (i + 1) _ (fun y hy => hq y (by simp [hy])) ?_
    intro s hs
    split at hs
    · rcases List.mem_or_eq_of_mem_set hs with hs | rfl
      · exact h s hs
      · exact hq x (by simp)
    · exact h s hs
/-- a disk some of whose queue has come through -/
def Dk.some (d : Dk) (keep : Int) (i : Nat) : Dk := { d with last := loseL keep (d.queue.take i) 0 d.last }
theorem strs_set (l : List ByteArray) (n : Nat) (s : ByteArray) : (strs l).setIfInBounds n (.string s) = strs (l.set n s) := by
  apply Array.toList_inj.1
  simp [strs, List.map_set]
theorem Dk.Ok.some {d : Dk} (h : d.Ok) (keep : Int) (i : Nat) : (d.some keep i).Ok :=
  ⟨by show (loseL _ _ _ _).length = _; rw [loseL_len]; exact h.len, h.pos, h.le, h.nsz, loseL_sizes keep _ _ _ (fun x hx => (h.que x (List.mem_of_mem_take hx)).2) h.lsz, h.que, h.left⟩
/-- the lasting row has turned -/
theorem DRaw.setL {B : Nat} {w w' : World} {g : Nat} {d : Dk} {kL kN : Nat} {vQ : Value} {wr fl : Int} {l : List ByteArray} (h : DRaw B w g d kL kN vQ wr fl) (hok : ({ d with last := l } : Dk).Ok)
    (hb : w'.heap[kL]? = some (.cells (strs l) 9 (0, 0))) (hg : w.grownBy w' (some kL)) : DRaw B w' g { d with last := l } kL kN vQ wr fl ∧ FrS B w w' := by
  have hk := types_blk h.lst hg
  exact ⟨⟨hk _ _ _ _ (by decide) h.blk, own_keep h.own (fun k cs f hr => hk _ _ _ _ (by decide) hr), hb, Lb.blk_grown' h.nw hg (fun e => h.ne e.symm), h.hL, h.hN, h.ne, h.ge, hok⟩, FrS.blk h.lst hg h.hL (.inr (.inr rfl))⟩
theorem DRaw.setN {B : Nat} {w w' : World} {g : Nat} {d : Dk} {kL kN : Nat} {vQ : Value} {wr fl : Int} {l : List ByteArray} (h : DRaw B w g d kL kN vQ wr fl) (hl : l.length = d.now.length) (hok : ({ d with now := l } : Dk).Ok)
    (hb : w'.heap[kN]? = some (.cells (strs l) 9 (0, 0))) (hg : w.grownBy w' (some kN)) : DRaw B w' g { d with now := l } kL kN vQ wr fl ∧ FrS B w w' := by
  have hk := types_blk h.nw hg
  have e : dkCells { d with now := l } kL kN vQ wr fl = dkCells d kL kN vQ wr fl := by simp [dkCells, hl]
  exact ⟨⟨by rw [e]; exact hk _ _ _ _ (by decide) h.blk, own_keep h.own (fun k cs f hr => hk _ _ _ _ (by decide) hr), Lb.blk_grown' h.lst hg h.ne, hb, h.hL, h.hN, h.ne, h.ge, hok⟩, FrS.blk h.nw hg h.hN (.inr (.inr rfl))⟩
theorem row_at {w : World} {B e n sz : Nat} {v : Value} {xs : List Value} (h : w.ownsRow B e sz v n xs) (hpos : 0 < n) : ∃ k cap row, v = .slice (some ⟨k, 0, none⟩) n cap ∧ n ≤ cap ∧ B ≤ k ∧ w.heap[k]? = some (.cells row e (0, 0)) ∧ ∀ (i : Nat) (x : Value), xs[i]? = some x → row[i]? = some x := by
  obtain ⟨h1, h2⟩ := h
  rcases h2 with ⟨_, h3⟩ | ⟨k, cap, row, rfl, hk, hr, hn, hm, hs, ht⟩
  · omega
  · refine ⟨k, cap, row, rfl, hn, hk, hr, fun i x hx => ?_⟩
    have hi : i < xs.length := (List.getElem?_eq_some_iff.1 hx).1
    rw [← ht, List.getElem?_take, if_pos (by omega), Array.getElem?_toList] at hx
    exact hx
theorem own_slice {w : World} {B e n sz : Nat} {v : Value} {xs : List Value} (h : w.ownsRow B e sz v n xs) : ∃ A cap, v = .slice A n cap ∧ n ≤ cap := by
  obtain ⟨_, h2⟩ := h
  rcases h2 with ⟨h2, h3⟩ | ⟨k, cap, row, e2, _, _, hn, _⟩
  · exact ⟨none, 0, by rw [h2, h3], by omega⟩
  · exact ⟨_, cap, e2, hn⟩

theorem grown_drew {w w' : World} {r : Option Nat} (h : w.drew.grownBy w' r) : w.grownBy w' r := ⟨h.os, h.tape, h.output, h.size, h.block⟩
/-- a row of strings copied whole over another, as a step of a region that draws -/
theorem copy_step {P : Program} {ops : Array Oper} {o : Oper} {a : Act} {W : World} {K : Act → World → Prop} {Q : Exit → Act → World → Prop} {E : Prop} (hgd : o.guard = none) (x y : Operand) (t e : TypeId)
    (ho : o.op = .call { callee := .builtin .copy, args := #[x, y], argTypes := #[t, t] }) (hu : P.underlying t = some (.slice e)) (hsz : (P.info? e).map (·.size) = some 1) {kd ks n : Nat} {L M : List ByteArray}
    (hx : a.eval x = .slice (some ⟨kd, 0, none⟩) n n) (hy : a.eval y = .slice (some ⟨ks, 0, none⟩) n n) (hd : W.heap[kd]? = some (.cells (strs L) e (0, 0))) (hs : W.heap[ks]? = some (.cells (strs M) e (0, 0))) (hL : L.length = n) (hM : M.length = n)
    (h : ∀ w1, w1.heap[kd]? = some (.cells (strs M) e (0, 0)) → W.grownBy w1 (some kd) → K (a.put o.dst (.int .i64 n)) w1) : if Region.wanted o (yielded ops a.tmps) = true then Oper.wp P o a W K Q else E := by
  rw [if_pos (show Region.wanted o (yielded ops a.tmps) = true by simp [Region.wanted, hgd])]
  have hrun := run_copy_row (P := P) W t t o.type e kd 0 n n ⟨ks, 0, none⟩ n n (strs L) e (strs M).toList hu hsz hd (by simp [strs, hM]) (fun j v hj => by
    have e2 : (⟨ks, 0, none⟩ : Addr).add j = ⟨ks, j, none⟩ := by unfold Addr.add; split <;> simp_all
    rw [e2, blk_cell hs j]
    simpa using hj) (by simp [strs, hL, hM]) (fun v hv => by
    have : v ∈ M.map Value.string := by simpa [strs] using hv
    obtain ⟨s, _, rfl⟩ := List.mem_map.1 this
    rfl)
  have e1 : ((strs L).toList.take 0 ++ (strs M).toList ++ (strs L).toList.drop (0 + (strs M).toList.length)).toArray = strs M := by
    apply Array.toList_inj.1
    have : (strs L).toList.drop (0 + (strs M).toList.length) = [] := List.drop_eq_nil_of_le (by simp [strs, hL, hM])
    rw [this]; simp
  rw [e1] at hrun
  have e3 : (goInt (strs M).toList.length) = .int .i64 n := by simp [strs, hM, goInt]
  rw [e3] at hrun
  refine Lib.wp_copy_run W x y t t ho _ _ hx hy hrun (h _ (setRow_heap W kd _ _ e _ hd) ⟨rfl, rfl, rfl, by simp [World.setRow], fun k _ hk => setRow_other W kd k _ (fun e => hk (by rw [e]))⟩)

set_option maxRecDepth 100000 in
theorem lose_raw (B g : Nat) (d : Dk) (keep : Int) (kL kN : Nat) (vQ : Value) (wr fl : Int) (w : World) (h : DRaw B w g d kL kN vQ wr fl) (hq : d.queue.length ≤ 1000000) :
    Calls Tryd.prog 44 #[.pointer (some ⟨g, 0, none⟩), .int .i64 keep] w fun e w' => e = .returned (.tuple #[]) ∧ DRaw B w' g (d.lose keep) kL kN (.slice none 0 0) wr fl ∧ FrS B w w' := by
  obtain ⟨AQ, cQ, rfl, hcQ⟩ := own_slice h.own
  have H := Aside0.mk h
  have c2 := h.cells.2.2.1
  clear h
  go_enter Tryd.func44, Tryd.ntmps44
  go_wp2_with fail
  go_loopg [11] d.queue.length (fun gk s11 wr1 => ∃ i : Nat, i + gk = d.queue.length ∧ s11 = .int .i64 i ∧ Aside0 (DRaw B wr1 g (d.some keep i) kL kN (.slice AQ d.queue.length cQ) wr fl) ∧ Aside0 (FrS B w wr1))
  case atStart => exact ⟨0, by omega, rfl, ⟨H.out⟩, ⟨FrS.refl _ _⟩⟩
  case round =>
    obtain ⟨i, hi, rfl, HD, HF⟩ := hrel
    cases gk with
    | zero =>
      obtain rfl : i = d.queue.length := by omega
      have hii : ¬ ((d.queue.length : Int) < (d.queue.length : Int)) := by omega
      clear c2
      have hsm : d.some keep d.queue.length = { d with last := (d.lose keep).last } := by unfold Dk.some; rw [List.take_length]; rfl
      rw [hsm] at HD
      have hll : (d.lose keep).last.length = d.now.length := by show (loseL _ _ _ _).length = _; rw [loseL_len]; exact H.out.ok.len
      have hls : ∀ s ∈ (d.lose keep).last, s.size ≤ 256 := HD.out.ok.lsz
      have HOK : Aside0 (({ ({ ({ d with last := (d.lose keep).last } : Dk) with queue := [] } : Dk) with now := (d.lose keep).last } : Dk).Ok) := ⟨⟨rfl, by show 1 ≤ (d.lose keep).last.length; rw [hll]; exact H.out.ok.pos, by show (d.lose keep).last.length ≤ 1026; rw [hll]; exact H.out.ok.le, hls, hls, by simp, H.out.ok.left⟩⟩
      have HLL := Aside0.mk hll
      clear hsm hll hls
      go_wp2_with (first
        | ((with_reducible refine gate_store (t := 72) (p := 35) rfl ?_); refine Lb.store_one rfl rfl 72 (.tmp 35) (.const (.slice none 0 0)) rfl (g := g) (off := 2) (u := .slice none 0 0) rfl rfl rfl rfl HD.out.blk (by kernel_rfl) (show 2 < 8 by decide) ?_; intro w4 hb hg; have H4 := Aside0.mk (HD.out.setQ hb hg); clear hb hg))
      have c0 : w4.cell? ⟨g, 0, none⟩ = some (.slice (some ⟨kL, 0, none⟩) d.now.length d.now.length) := H4.out.1.cells.1
      have c1 : w4.cell? ⟨g, 1, none⟩ = some (.slice (some ⟨kN, 0, none⟩) d.now.length d.now.length) := H4.out.1.cells.2.1
      go_region_law (refine copy_step rfl (.tmp 39) (.tmp 43) 22 9 rfl Tryd.underlying22 (by kernel_rfl) rfl rfl H4.out.1.nw H4.out.1.lst rfl HLL.out ?_; intro w5 hb hg; have H5 := Aside0.mk (H4.out.1.setN (l := (d.lose keep).last) HLL.out HOK.out hb (grown_drew hg)); clear hb hg)
      all_goals (go_end0; exact ⟨rfl, H5.out.1, (HF.out.trans H4.out.2).trans H5.out.2⟩)
    | succ gk =>
      have hii : (i : Int) < (d.queue.length : Int) := by omega
      have hlt : i < d.queue.length := by omega
      obtain ⟨x, hx⟩ : ∃ x, x = d.queue[i]'hlt := ⟨_, rfl⟩
      have hxq : d.queue[i]? = some x := by rw [hx]; exact List.getElem?_eq_getElem hlt
      obtain ⟨kQ, cap, row, hA, hcap, hBQ, hrow, hcells⟩ := row_at HD.out.own (by show 0 < d.queue.length; omega)
      injection hA with hA1 hA2 hA3
      subst hA1
      obtain ⟨f1, f2⟩ := flatQ_at d.queue i x hxq
      have q0 := (blk_cell hrow (i * 2)).trans (hcells _ _ f1)
      have q1 := (blk_cell hrow (i * 2 + 1)).trans (hcells _ _ f2)
      have HXN := Aside0.mk (HD.out.ok.que x (by show x ∈ d.queue; rw [hx]; exact List.getElem_mem hlt))
      have HTK := Aside0.mk (loseL_take keep d.queue d.last i hlt)
      rw [← hx] at HTK
      have hle := HD.out.ok.le
      clear hcells hrow hx hxq f1 f2 hA2 hA3 c2
      cases hkb : kb keep i with
      | false =>
        have hkb' : (bits BinOp.and IntKind.u64 (IntKind.u64.wrap keep / 2 ^ (i % 60)) 1 == 1) = false := hkb
        have HSM : Aside0 (d.some keep (i + 1) = d.some keep i) := ⟨by unfold Dk.some; rw [HTK.out, hkb]; rfl⟩
        clear hkb
        go_wp2_with (first
          | ((with_reducible refine gate_dst (N := 5) rfl ?_); refine Lb.alloc_event ?hg (v := fun g => .pointer (some ⟨g, 0, none⟩)) (cs := #[.int .i64 0, .string ⟨#[]⟩]) (t := 104) (fr := (0, 0)) ?hr ?_; (case hg => rfl); (case hr => first | (go_simp; done) | (go_simp; rfl)); intro g5 hg5 w2 hx hb; have HX := Aside0.mk hx; have HB2 := Aside0.mk hb; have HG5 := Aside0.mk hg5; have HD2 := Aside0.mk (HD.out.step hb); clear hx hb hg5)
          | ((with_reducible refine gate_store (t := 104) (p := 5) rfl ?_); refine Lb.store_whole rfl rfl 104 (.tmp 5) (.tmp 15) rfl (new := #[.int .i64 x.n, .string x.data]) rfl rfl HX.out rfl (by kernel_rfl) (by simp [Value.oneCell']) ?_; intro w3 hb hg; have HX3 := Aside0.mk hb; have HB3 := Aside0.mk (Lb.grown_below HB2.out hg HB2.out.size (by have := HG5.out; omega)); have HD3 := Aside0.mk (HD.out.step HB3.out); clear hb hg))
        go_roundg gk
        case measure => omega
        case rel => exact ⟨i + 1, by omega, by first | rfl | (congr 1; unfold wrap64; omega), ⟨by rw [HSM.out]; exact HD3.out⟩, ⟨HF.out.trans (FrS.of HB3.out HD.out.lt)⟩⟩
      | true =>
        have hkb' : (bits BinOp.and IntKind.u64 (IntKind.u64.wrap keep / 2 ^ (i % 60)) 1 == 1) = true := hkb
        have HSM : Aside0 (d.some keep (i + 1) = { d.some keep i with last := (d.some keep i).last.set x.n x.data }) := ⟨by unfold Dk.some; rw [HTK.out, hkb]; rfl⟩
        clear hkb
        go_wp2_with (first
          | ((with_reducible refine gate_dst (N := 5) rfl ?_); refine Lb.alloc_event ?hg (v := fun g => .pointer (some ⟨g, 0, none⟩)) (cs := #[.int .i64 0, .string ⟨#[]⟩]) (t := 104) (fr := (0, 0)) ?hr ?_; (case hg => rfl); (case hr => first | (go_simp; done) | (go_simp; rfl)); intro g5 hg5 w2 hx hb; have HX := Aside0.mk hx; have HB2 := Aside0.mk hb; have HG5 := Aside0.mk hg5; have HD2 := Aside0.mk (HD.out.step hb); clear hx hb hg5)
          | ((with_reducible refine gate_store (t := 104) (p := 5) rfl ?_); refine Lb.store_whole rfl rfl 104 (.tmp 5) (.tmp 15) rfl (new := #[.int .i64 x.n, .string x.data]) rfl rfl HX.out rfl (by kernel_rfl) (by simp [Value.oneCell']) ?_; intro w3 hb hg; have HX3 := Aside0.mk hb; have HB3 := Aside0.mk (Lb.grown_below HB2.out hg HB2.out.size (by have := HG5.out; omega)); have HD3 := Aside0.mk (HD.out.step HB3.out); clear hb hg))
        have y0 := (blk_cell HX3.out 0).trans rfl
        have y1 := (blk_cell HX3.out 1).trans rfl
        have c0 := HD3.out.cells.1
        have n1 : (d.some keep i).now.length = d.now.length := rfl
        rw [n1] at c0
        have hn := HXN.out.1
        rw [n1] at hn
        have hn' : (x.n : Int) < (d.now.length : Int) := by omega
        go_still_tail 9, (by kernel_rfl)
        change wpList _ _ _ _ _ w3.drew
        have HD4 := Aside0.mk (HD3.out.step (Lb.below_drew w3))
        have HB4 := Aside0.mk (below_step HB3.out (Lb.below_drew w3))
        clear y0 y1 c0
        generalize w3.drew = w4 at HD4 HB4 ⊢
        go_wp2_with (first
          | ((with_reducible refine gate_store (t := 9) (p := 31) rfl ?_); refine Lb.store_one rfl rfl 9 (.tmp 31) (.tmp 30) rfl (g := kL) (off := x.n) (u := .string x.data) rfl rfl rfl rfl HD4.out.lst (by kernel_rfl) (by show x.n < ((d.some keep i).last.map Value.string).toArray.size; have := HD.out.ok.len; rw [n1] at this; simp; omega) ?_; intro w5 hb hg; rw [strs_set] at hb; have H5 := Aside0.mk (HD4.out.setL (HSM.out ▸ H.out.ok.some keep (i + 1)) hb hg); clear hb hg))
        go_roundg gk
        case measure => omega
        case rel => exact ⟨i + 1, by omega, by first | rfl | (congr 1; unfold wrap64; omega), ⟨by rw [HSM.out]; exact H5.out.1⟩, ⟨(HF.out.trans (FrS.of HB4.out HD.out.lt)).trans H5.out.2⟩⟩
end Go.Proofs.YtfiocakhgpdlfaaDoor.Sg

namespace Go.Proofs.YtfiocakhgpdlfaaDoor.Sg
open Go.RowKit Go.Lib Go.Proofs.YtfiocakhgpdlfaaDoorW.PrintWords Go.Proofs.YtfiocakhgpdlfaaDoorW.PrintLast Go.Proofs.YtfiocakhgpdlfaaDoorW.PrintMore
set_option linter.unusedVariables false
set_option linter.unusedSimpArgs false

theorem DRaw.dat {B : Nat} {w : World} {g : Nat} {d : Dk} {kL kN : Nat} {vQ : Value} {wr fl : Int} (h : DRaw B w g d kL kN vQ wr fl) : DAt B w g d := ⟨_, _, _, _, _, h⟩
theorem crash_calls (B g : Nat) (d : Dk) (keep : Int) (w : World) (h : DAt B w g d) (hq : d.queue.length ≤ 1000000) :
    Calls Tryd.prog 13 #[.pointer (some ⟨g, 0, none⟩), .int .i64 keep] w fun e w' => e = .returned (.tuple #[]) ∧ DAt B w' g (d.crash keep) ∧ FrS B w w' := by
  obtain ⟨kL, kN, vQ, wr, fl, h⟩ := h
  have H := Aside0.mk h
  have hp := dptr_ne g
  clear h
  go_enter Tryd.func13, Tryd.ntmps13
  go_wp2_with (first
    | (go_at_call 44; (with_reducible refine (lose_raw B g d keep kL kN vQ wr fl w H.out hq).mono ?_); rintro e1 w1 ⟨rfl, h1, hf1⟩; have H1 := Aside0.mk h1; have HF1 := Aside0.mk hf1; clear h1 hf1)
    | (go_at_call 21; (with_reducible refine (on_calls B g (d.lose keep) w1 H1.out.dat).mono ?_); rintro e2 w2 ⟨rfl, h2, hf2⟩; have H2 := Aside0.mk h2; have HF2 := Aside0.mk hf2; clear h2 hf2))
  go_end0
  exact ⟨rfl, H2.out, HF1.out.trans HF2.out⟩

set_option maxRecDepth 100000 in
theorem flush_calls (B g : Nat) (d : Dk) (w : World) (h : DAt B w g d) (hq : d.queue.length ≤ 1000000) :
    Calls Tryd.prog 33 #[.pointer (some ⟨g, 0, none⟩)] w fun e w' => e = .returned (.int .i64 d.flush.2) ∧ DAt B w' g d.flush.1 ∧ FrS B w w' := by
  obtain ⟨kL, kN, vQ, wr, fl, h⟩ := h
  have H := Aside0.mk h
  have hp := dptr_eq g
  have c5 := h.cells.2.2.2.2.2.1
  cases hoff : d.off with
  | true =>
    have hd : d.flush = (d, 20) := by unfold Dk.flush; rw [hoff]; rfl
    rw [hoff] at c5
    rw [hd]
    clear h hd hoff
    go_enter Tryd.func33, Tryd.ntmps33
    go_wp2
    go_ret
    exact ⟨rfl, ⟨_, _, _, _, _, H.out⟩, FrS.refl _ _⟩
  | false =>
    rw [hoff] at c5
    cases ht : d.torn with
    | true =>
      have hd : d.flush = (d.gone, 20) := by unfold Dk.flush; rw [hoff, ht]; rfl
      rw [hd]
      have HT := torn_raw B g d kL kN vQ wr fl w h
      rw [ht] at HT
      have hq' : d.tick.queue.length ≤ 1000000 := hq
      clear h hd hoff ht
      go_enter Tryd.func33, Tryd.ntmps33
      go_wp2_with (first
        | (go_at_call 52; (with_reducible refine HT.mono ?_); rintro e1 w1 ⟨rfl, h1, hf1⟩; have H1 := Aside0.mk h1; have HF1 := Aside0.mk hf1; have c4 : w1.cell? ⟨g, 4, none⟩ = some (.int .i64 d.keep) := h1.cells.2.2.2.2.1; clear h1 hf1 HT c5)
        | (go_at_call 44; (with_reducible refine (lose_raw B g d.tick d.keep kL kN vQ wr fl w1 H1.out hq').mono ?_); rintro e2 w2 ⟨rfl, h2, hf2⟩; have H2 := Aside0.mk h2; have HF2 := Aside0.mk hf2; clear h2 hf2 c4)
        | ((with_reducible refine gate_store (t := 4) (p := 22) rfl ?_); refine Lb.store_one rfl rfl 4 (.tmp 22) (.const (.bool true)) rfl (g := g) (off := 5) (u := .bool true) rfl rfl rfl rfl H2.out.blk (by kernel_rfl) (show 5 < 8 by decide) ?_; intro w3 hb hg; have H3 := Aside0.mk (H2.out.set5 hb hg); clear hb hg))
      go_ret
      exact ⟨rfl, ⟨_, _, _, _, _, H3.out.1⟩, (HF1.out.trans HF2.out).trans H3.out.2⟩
    | false =>
      have hd : d.flush = ({ d.tick with last := d.now, queue := [] }, 0) := by unfold Dk.flush; rw [hoff, ht]; rfl
      rw [hd]
      have HT := torn_raw B g d kL kN vQ wr fl w h
      rw [ht] at HT
      clear h hd hoff ht
      go_enter Tryd.func33, Tryd.ntmps33
      go_wp2_with (first
        | (go_at_call 52; (with_reducible refine HT.mono ?_); rintro e1 w1 ⟨rfl, h1, hf1⟩; have H1 := Aside0.mk h1; have HF1 := Aside0.mk hf1; clear h1 hf1 HT c5))
      have c0 : w1.cell? ⟨g, 0, none⟩ = some (.slice (some ⟨kL, 0, none⟩) d.now.length d.now.length) := H1.out.cells.1
      have c1 : w1.cell? ⟨g, 1, none⟩ = some (.slice (some ⟨kN, 0, none⟩) d.now.length d.now.length) := H1.out.cells.2.1
      have HOK : Aside0 (({ d.tick with last := d.tick.now } : Dk).Ok) := ⟨⟨rfl, H.out.ok.pos, H.out.ok.le, H.out.ok.nsz, H.out.ok.nsz, H.out.ok.que, H1.out.ok.left⟩⟩
      have HLL := Aside0.mk H.out.ok.len
      go_region_law (refine copy_step rfl (.tmp 26) (.tmp 30) 22 9 rfl Tryd.underlying22 (by kernel_rfl) rfl rfl H1.out.lst H1.out.nw HLL.out rfl ?_; intro w2 hb hg; have H2 := Aside0.mk (H1.out.setL (l := d.tick.now) HOK.out hb (grown_drew hg)); clear hb hg)
      all_goals
        clear c0 c1
        go_wp2_with (first
          | ((with_reducible refine gate_store (t := 72) (p := 34) rfl ?_); refine Lb.store_one rfl rfl 72 (.tmp 34) (.const (.slice none 0 0)) rfl (g := g) (off := 2) (u := .slice none 0 0) rfl rfl rfl rfl H2.out.1.blk (by kernel_rfl) (show 2 < 8 by decide) ?_; intro w4 hb hg; have H4 := Aside0.mk (H2.out.1.setQ hb hg); have c7 := H4.out.1.cells.2.2.2.2.2.2.2; clear hb hg)
          | ((with_reducible refine gate_store (t := 3) (p := 41) rfl ?_); refine Lb.store_one rfl rfl 3 (.tmp 41) (.tmp 39) rfl (g := g) (off := 7) (u := .int .i64 _) rfl rfl rfl rfl H4.out.1.blk (by kernel_rfl) (show 7 < 8 by decide) ?_; intro w5 hb hg; have H5 := Aside0.mk (H4.out.1.set7 hb hg); clear hb hg c7))
        go_ret
        exact ⟨rfl, H5.out.1.dat, ((HF1.out.trans H2.out.2).trans H4.out.2).trans H5.out.2⟩
end Go.Proofs.YtfiocakhgpdlfaaDoor.Sg

namespace Go.Proofs.YtfiocakhgpdlfaaDoor.Sg
open Go.RowKit Go.Lib Go.Proofs.YtfiocakhgpdlfaaDoor.Ap Go.Proofs.YtfiocakhgpdlfaaDoorW.PrintWords Go.Proofs.YtfiocakhgpdlfaaDoorW.PrintLast Go.Proofs.YtfiocakhgpdlfaaDoorW.PrintMore
set_option linter.unusedVariables false
set_option linter.unusedSimpArgs false

theorem wr_info : ((Tryd.prog).info? 104).map (fun i => (i.zero, i.size, i.bytes)) = some (some (.agg #[.int .i64 0, .string ⟨#[]⟩]), 2, 24) := by kernel_rfl
/-- a write more stands in the queue -/
theorem DRaw.push {B : Nat} {w w1 w2 : World} {g : Nat} {d : Dk} {kL kN : Nat} {vQ v' : Value} {wr fl : Int} {n : Nat} {s : ByteArray} (h : DRaw B w g d kL kN vQ wr fl) (ha : App w w1 B 104 2 v' (d.queue.length + 1) (flatQ d.queue ++ [.int .i64 n, .string s])) (hn : n < d.now.length) (hs : s.size ≤ 256)
    (hb : w2.heap[g]? = some (.cells ((dkCells d kL kN vQ wr fl).setIfInBounds 2 v') 75 (0, 0))) (hg : w1.grownBy w2 (some g)) : DRaw B w2 g { d with queue := d.queue ++ [⟨n, s⟩] } kL kN v' wr fl ∧ FrS B w w2 := by
  have b1 := ha.keep _ _ _ _ (by decide) h.blk
  have hk := types_blk b1 hg
  refine ⟨⟨hb, own_keep (by simpa [flatQ_app, flatQ] using ha.own) (fun k cs f hr => hk _ _ _ _ (by decide) hr), hk _ _ _ _ (by decide) (ha.keep _ _ _ _ (by decide) h.lst), hk _ _ _ _ (by decide) (ha.keep _ _ _ _ (by decide) h.nw), h.hL, h.hN, h.ne, h.ge, ?_⟩, ?_⟩
  · refine ⟨h.ok.len, h.ok.pos, h.ok.le, h.ok.nsz, h.ok.lsz, fun x hx => ?_, h.ok.left⟩
    rcases List.mem_append.1 hx with hx | hx
    · exact h.ok.que x hx
    · have : x = ⟨n, s⟩ := by simpa using hx
      rw [this]; exact ⟨hn, hs⟩
  · have f1 : FrS B w w1 := ⟨ha.bel, fun k cs t' f hr h1 h2 h3 => ha.keep k cs t' f h2 hr⟩
    exact f1.trans (FrS.blk b1 hg h.ge (.inl rfl))
theorem DRaw.setNow {B : Nat} {w w' : World} {g : Nat} {d : Dk} {kL kN : Nat} {vQ : Value} {wr fl : Int} {n : Nat} {s : ByteArray} (h : DRaw B w g d kL kN vQ wr fl) (hs : s.size ≤ 256)
    (hb : w'.heap[kN]? = some (.cells ((strs d.now).setIfInBounds n (.string s)) 9 (0, 0))) (hg : w.grownBy w' (some kN)) : DRaw B w' g { d with now := d.now.set n s } kL kN vQ wr fl ∧ FrS B w w' := by
  rw [strs_set] at hb
  refine h.setN (by simp) ⟨by simpa using h.ok.len, by simpa using h.ok.pos, by simpa using h.ok.le, fun x hx => ?_, h.ok.lsz, fun x hx => by simpa using h.ok.que x hx, h.ok.left⟩ hb hg
  rcases List.mem_or_eq_of_mem_set hx with hx | rfl
  · exact h.ok.nsz x hx
  · exact hs

set_option maxRecDepth 100000 in
theorem write_calls (B g n : Nat) (s : ByteArray) (d : Dk) (w : World) (h : DAt B w g d) (hn : n < d.now.length) (hs : s.size ≤ 256) (hq : d.queue.length ≤ 1000) :
    Calls Tryd.prog 31 #[.pointer (some ⟨g, 0, none⟩), .int .i64 n, .string s] w fun e w' => e = .returned (.int .i64 (d.write n s).2) ∧ DAt B w' g (d.write n s).1 ∧ FrS B w w' := by
  have HSZ := size_calls B g d w h
  obtain ⟨kL, kN, vQ, wr, fl, h⟩ := h
  obtain ⟨AQ, cQ, rfl, hcQ⟩ := own_slice h.own
  have H := Aside0.mk h
  have hle := h.ok.le
  have c5 := h.cells.2.2.2.2.2.1
  have n0 : ¬ ((n : Int) < 0) := by omega
  have n1 : decide ((d.now.length : Int) ≤ (n : Int)) = false := decide_eq_false (by omega)
  have n1' : decide (d.now.length ≤ n) = false := decide_eq_false (by omega)
  have n2 : decide ((256 : Int) < (s.size : Int)) = false := decide_eq_false (by omega)
  have n2' : decide (256 < s.size) = false := decide_eq_false (by omega)
  cases hoff : d.off with
  | true =>
    have hd : d.write n s = (d, 20) := by unfold Dk.write; rw [hoff]; rfl
    rw [hoff] at c5
    rw [hd]
    clear h hd hoff
    go_enter Tryd.func31, Tryd.ntmps31
    go_wp2_with (first
      | (go_at_call 51; (with_reducible refine HSZ.mono ?_); rintro e1 w1 ⟨rfl, rfl⟩))
    go_ret
    exact ⟨rfl, H.out.dat, FrS.refl _ _⟩
  | false =>
    rw [hoff] at c5
    have c2 : w.cell? ⟨g, 2, none⟩ = some (.slice AQ d.queue.length cQ) := h.cells.2.2.1
    have hn' : (n : Int) < (d.now.length : Int) := by omega
    have HN := Aside0.mk hn
    have HSS := Aside0.mk hs
    have hlen : Aside0 (d.queue.length + 1 ≤ 1000000000) := ⟨by omega⟩
    obtain ⟨d2, hd2⟩ : ∃ d2 : Dk, d2 = d.put n s := ⟨_, rfl⟩
    have hq2 : d2.tick.queue.length ≤ 1000000 := by rw [hd2]; show (d.queue ++ [_]).length ≤ _; simp; omega
    have HD2 := Aside0.mk hd2
    have htt : d2.torn = d.torn := by rw [hd2]; rfl
    have HKP : Aside0 (d2.tick.keep = d.keep) := ⟨by rw [hd2]; rfl⟩
    cases ht : d.torn with
    | true =>
      have hd : d.write n s = (d2.gone, 20) := by unfold Dk.write; rw [hoff, ht, hd2]; rfl
      rw [hd]
      rw [ht] at htt
      clear h hd hoff ht hd2
      go_enter Tryd.func31, Tryd.ntmps31
      go_wp2_with (first
        | (go_at_call 51; (with_reducible refine HSZ.mono ?_); rintro e1 w1 ⟨rfl, rfl⟩)
        | ((with_reducible refine gate_dst (N := 34) rfl ?_); refine Lb.alloc_event ?hg (v := fun g => .slice (some ⟨g, 0, none⟩) 1 1) (cs := #[.int .i64 n, .string s]) (t := 104) (fr := (0, 0)) ?hr ?_; (case hg => rfl); (case hr => first | (go_simp; done) | (go_simp; rfl)); intro g3 hg3 w3 hx hb; have HNB : Aside0 (NewBlk w w3 g3 #[.int .i64 n, .string s] 104) := ⟨⟨hx, hb⟩⟩; clear hx hb hg3)
        | (at_builtin; refine app_event (w0 := w) rfl (.tmp 30) (.tmp 34) 72 104 _ 2 24 rfl Tryd.underlying72 wr_info rfl (by decide) (by decide) (B := B) (n := d.queue.length) (m := 1) (v := .slice AQ d.queue.length cQ) (xs := flatQ d.queue) (news := [.int .i64 n, .string s]) rfl H.out.own HNB.out rfl rfl (by simp [Value.oneCell']) H.out.lt hlen.out ?_; intro v' w4 ha; have HA := Aside0.mk ha; clear ha c2 c5)
        | ((with_reducible refine gate_store (t := 72) (p := 37) rfl ?_); refine Lb.store_one rfl rfl 72 (.tmp 37) (.tmp 35) rfl (g := g) (off := 2) (u := v') rfl rfl (own_cells HA.out.own).1 (own_cells HA.out.own).2 (HA.out.keep _ _ _ _ (by decide) H.out.blk) (by kernel_rfl) (show 2 < 8 by decide) ?_; intro w5 hb hg; have H5 := Aside0.mk (H.out.push HA.out HN.out HSS.out hb hg); have c1 := H5.out.1.cells.2.1; clear hb hg)
        | ((with_reducible refine gate_store (t := 9) (p := 44) rfl ?_); refine Lb.store_one rfl rfl 9 (.tmp 44) (.tmp 43) rfl (g := kN) (off := n) (u := .string s) rfl rfl rfl rfl H5.out.1.nw (by kernel_rfl) (by show n < (d.now.map Value.string).toArray.size; have := HN.out; simp; omega) ?_; intro w6 hb hg; have H6 := Aside0.mk (H5.out.1.setNow HSS.out hb hg); have H6' : Aside0 (DRaw B w6 g d2 kL kN v' wr fl) := ⟨HD2.out ▸ H6.out.1⟩; clear hb hg c1)
        | (go_at_call 52; (with_reducible refine (torn_raw B g d2 kL kN v' wr fl w6 H6'.out).mono ?_); rw [htt]; rintro e7 w7 ⟨rfl, h1, hf1⟩; have H7 := Aside0.mk h1; have HF7 := Aside0.mk hf1; have c4 : w7.cell? ⟨g, 4, none⟩ = some (.int .i64 d2.tick.keep) := h1.cells.2.2.2.2.1; clear h1 hf1)
        | (go_at_call 44; (with_reducible refine (lose_raw B g d2.tick d2.tick.keep kL kN v' wr fl w7 H7.out hq2).mono ?_); rintro e8 w8 ⟨rfl, h2, hf2⟩; have H8 := Aside0.mk h2; have HF8 := Aside0.mk hf2; clear h2 hf2 c4)
        | ((with_reducible refine gate_store (t := 4) (p := 56) rfl ?_); refine Lb.store_one rfl rfl 4 (.tmp 56) (.const (.bool true)) rfl (g := g) (off := 5) (u := .bool true) rfl rfl rfl rfl H8.out.blk (by kernel_rfl) (show 5 < 8 by decide) ?_; intro w9 hb hg; have H9 := Aside0.mk (H8.out.set5 hb hg); clear hb hg))
      go_ret
      exact ⟨rfl, H9.out.1.dat, (((H5.out.2.trans H6.out.2).trans HF7.out).trans HF8.out).trans H9.out.2⟩
    | false =>
      have hd : d.write n s = (d2.tick, 0) := by unfold Dk.write; rw [hoff, ht, hd2]; rfl
      rw [hd]
      rw [ht] at htt
      clear h hd hoff ht hd2
      go_enter Tryd.func31, Tryd.ntmps31
      go_wp2_with (first
        | (go_at_call 51; (with_reducible refine HSZ.mono ?_); rintro e1 w1 ⟨rfl, rfl⟩)
        | ((with_reducible refine gate_dst (N := 34) rfl ?_); refine Lb.alloc_event ?hg (v := fun g => .slice (some ⟨g, 0, none⟩) 1 1) (cs := #[.int .i64 n, .string s]) (t := 104) (fr := (0, 0)) ?hr ?_; (case hg => rfl); (case hr => first | (go_simp; done) | (go_simp; rfl)); intro g3 hg3 w3 hx hb; have HNB : Aside0 (NewBlk w w3 g3 #[.int .i64 n, .string s] 104) := ⟨⟨hx, hb⟩⟩; clear hx hb hg3)
        | (at_builtin; refine app_event (w0 := w) rfl (.tmp 30) (.tmp 34) 72 104 _ 2 24 rfl Tryd.underlying72 wr_info rfl (by decide) (by decide) (B := B) (n := d.queue.length) (m := 1) (v := .slice AQ d.queue.length cQ) (xs := flatQ d.queue) (news := [.int .i64 n, .string s]) rfl H.out.own HNB.out rfl rfl (by simp [Value.oneCell']) H.out.lt hlen.out ?_; intro v' w4 ha; have HA := Aside0.mk ha; clear ha c2 c5)
        | ((with_reducible refine gate_store (t := 72) (p := 37) rfl ?_); refine Lb.store_one rfl rfl 72 (.tmp 37) (.tmp 35) rfl (g := g) (off := 2) (u := v') rfl rfl (own_cells HA.out.own).1 (own_cells HA.out.own).2 (HA.out.keep _ _ _ _ (by decide) H.out.blk) (by kernel_rfl) (show 2 < 8 by decide) ?_; intro w5 hb hg; have H5 := Aside0.mk (H.out.push HA.out HN.out HSS.out hb hg); have c1 := H5.out.1.cells.2.1; clear hb hg)
        | ((with_reducible refine gate_store (t := 9) (p := 44) rfl ?_); refine Lb.store_one rfl rfl 9 (.tmp 44) (.tmp 43) rfl (g := kN) (off := n) (u := .string s) rfl rfl rfl rfl H5.out.1.nw (by kernel_rfl) (by show n < (d.now.map Value.string).toArray.size; have := HN.out; simp; omega) ?_; intro w6 hb hg; have H6 := Aside0.mk (H5.out.1.setNow HSS.out hb hg); have H6' : Aside0 (DRaw B w6 g d2 kL kN v' wr fl) := ⟨HD2.out ▸ H6.out.1⟩; clear hb hg c1)
        | (go_at_call 52; (with_reducible refine (torn_raw B g d2 kL kN v' wr fl w6 H6'.out).mono ?_); rw [htt]; rintro e7 w7 ⟨rfl, h1, hf1⟩; have H7 := Aside0.mk h1; have HF7 := Aside0.mk hf1; have c6 : w7.cell? ⟨g, 6, none⟩ = some (.int .i64 wr) := h1.cells.2.2.2.2.2.2.1; clear h1 hf1)
        | ((with_reducible refine gate_store (t := 3) (p := 63) rfl ?_); refine Lb.store_one rfl rfl 3 (.tmp 63) (.tmp 61) rfl (g := g) (off := 6) (u := .int .i64 _) rfl rfl rfl rfl H7.out.blk (by kernel_rfl) (show 6 < 8 by decide) ?_; intro w8 hb hg; have H8 := Aside0.mk (H7.out.set6 hb hg); clear hb hg c6))
      go_ret
      exact ⟨rfl, H8.out.1.dat, ((H5.out.2.trans H6.out.2).trans HF7.out).trans H8.out.2⟩
end Go.Proofs.YtfiocakhgpdlfaaDoor.Sg

namespace Go.Proofs.YtfiocakhgpdlfaaDoor.Sg
open Go.RowKit Go.Lib Go.Proofs.YtfiocakhgpdlfaaDoor.Ap Go.Proofs.YtfiocakhgpdlfaaDoorW.PrintWords Go.Proofs.YtfiocakhgpdlfaaDoorW.PrintLast Go.Proofs.YtfiocakhgpdlfaaDoorW.PrintMore
set_option linter.unusedVariables false
set_option linter.unusedSimpArgs false

theorem repeat0 : ∀ c : Nat, Lib.repeatL [0] c = List.replicate c (0 : UInt8)
  | 0 => rfl
  | c + 1 => by rw [Lib.repeatL, repeat0 c]; rfl
theorem full_add (s : ByteArray) : (s ++ (⟨Array.replicate (256 - s.size) (0 : UInt8)⟩ : ByteArray)) = toB (full s) := by
  apply ByteArray.ext
  apply Array.toList_inj.1
  simp [toB, full]

theorem read_calls (B g n : Nat) (d : Dk) (w : World) (h : DAt B w g d) (hn : n < d.now.length) (hoff : d.off = false) :
    Calls Tryd.prog 34 #[.pointer (some ⟨g, 0, none⟩), .int .i64 n] w fun e w' => e = .returned (.tuple #[.string (toB (secOf d.now n)), .int .i64 0]) ∧ Below w.heap.size w w' := by
  have HSZ := size_calls B g d w h
  obtain ⟨kL, kN, vQ, wr, fl, h⟩ := h
  have hle := h.ok.le
  obtain ⟨-, c1, -, -, -, c5, -⟩ := h.cells
  rw [hoff] at c5
  have n0 : ¬ ((n : Int) < 0) := by omega
  have n1 : decide ((d.now.length : Int) ≤ (n : Int)) = false := decide_eq_false (by omega)
  have n1' : decide (d.now.length ≤ n) = false := decide_eq_false (by omega)
  have hn' : (n : Int) < (d.now.length : Int) := by omega
  obtain ⟨s, hs⟩ : ∃ s, d.now[n]? = some s := ⟨_, List.getElem?_eq_getElem hn⟩
  have cn : w.cell? ⟨kN, n, none⟩ = some (.string s) := (blk_cell h.nw n).trans (by simp [strs, hs])
  have hsz : s.size ≤ 256 := h.ok.nsz s (List.mem_of_getElem? hs)
  have HS := Aside0.mk (secOf_some hs)
  have HR := Tryd.strings_Repeat ⟨#[0]⟩ (256 - s.size) w (by omega) (by show 1 * _ ≤ _; omega)
  have e1 : ((256 - s.size : Nat) : Int) = 256 - (s.size : Int) := by omega
  rw [e1, show (⟨#[0]⟩ : ByteArray).data.toList = [0] from rfl, repeat0] at HR
  clear h hs hoff hn e1
  go_enter Tryd.func34, Tryd.ntmps34
  go_wp2_with (first
    | (go_at_call 51; (with_reducible refine HSZ.mono ?_); rintro e1 w1 ⟨rfl, rfl⟩)
    | (go_at_call 55; refine HR.mono ?_; rintro e2 w2 ⟨rfl, hb⟩; have HB := Aside0.mk hb; clear hb))
  go_ret2
  exact ⟨by rw [HS.out, ← full_add]; rfl, HB.out⟩

theorem string_row (n : Nat) : madeCells #[Value.string ⟨#[]⟩] n = strs (List.replicate n ⟨#[]⟩) := by
  apply Array.ext
  · simp [madeCells, strs]
  · intro i h1 h2
    simp [madeCells, strs, Nat.mod_one]
theorem new_fin (w : World) (n a b : Nat) (h1 : 1 ≤ n) (h2 : n ≤ 1026) (hab : (a = w.heap.size ∧ b = w.heap.size + 1) ∨ (a = w.heap.size + 1 ∧ b = w.heap.size)) :
    DAt w.heap.size ((((w.alloc (.cells (madeCells #[Value.string ⟨#[]⟩] n) 9)).alloc (.cells (madeCells #[Value.string ⟨#[]⟩] n) 9)).alloc
      (.cells #[.slice (some ⟨a, 0, none⟩) n n, .slice (some ⟨b, 0, none⟩) n n, .slice none 0 0, .int .i64 0, .int .i64 0, .bool false, .int .i64 0, .int .i64 0] 75)).drew) (w.heap.size + 1 + 1) (Dk.mk0 n) ∧
    Below w.heap.size w ((((w.alloc (.cells (madeCells #[Value.string ⟨#[]⟩] n) 9)).alloc (.cells (madeCells #[Value.string ⟨#[]⟩] n) 9)).alloc
      (.cells #[.slice (some ⟨a, 0, none⟩) n n, .slice (some ⟨b, 0, none⟩) n n, .slice none 0 0, .int .i64 0, .int .i64 0, .bool false, .int .i64 0, .int .i64 0] 75)).drew) := by
  rw [string_row]
  have hl : (Dk.mk0 n).now.length = n := by simp [Dk.mk0]
  obtain ⟨w1, hw1⟩ : ∃ w1, w1 = w.alloc (.cells (strs (List.replicate n ⟨#[]⟩)) 9) := ⟨_, rfl⟩
  obtain ⟨w2, hw2⟩ : ∃ w2, w2 = w1.alloc (.cells (strs (List.replicate n ⟨#[]⟩)) 9) := ⟨_, rfl⟩
  rw [← hw1, ← hw2]
  have z1 : w1.heap.size = w.heap.size + 1 := by rw [hw1]; simp
  have z2 : w2.heap.size = w.heap.size + 1 + 1 := by rw [hw2]; simp [z1]
  have b1 : w1.heap[w.heap.size]? = some (.cells (strs (List.replicate n ⟨#[]⟩)) 9 (0, 0)) := by rw [hw1]; exact blk_new w _
  have b2 : w2.heap[w.heap.size + 1]? = some (.cells (strs (List.replicate n ⟨#[]⟩)) 9 (0, 0)) := by rw [hw2, ← z1]; exact blk_new w1 _
  have q1 : Below w.heap.size w w1 := by rw [hw1]; exact below_alloc (Below.refl _ _) _
  have q2 : Below w1.heap.size w1 w2 := by rw [hw2]; exact below_alloc (Below.refl _ _) _
  have b12 := Lb.blk_below b1 q2
  obtain ⟨w3, hw3⟩ : ∃ w3, w3 = (w2.alloc (.cells #[.slice (some ⟨a, 0, none⟩) n n, .slice (some ⟨b, 0, none⟩) n n, .slice none 0 0, .int .i64 0, .int .i64 0, .bool false, .int .i64 0, .int .i64 0] 75)).drew := ⟨_, rfl⟩
  have b3 : w3.heap[w.heap.size + 1 + 1]? = some (.cells (dkCells (Dk.mk0 n) a b (.slice none 0 0) 0 0) 75 (0, 0)) := by
    rw [hw3, ← z2, dkCells, hl]; exact blk_new w2 _
  have q3 : Below w2.heap.size w2 w3 := by rw [hw3]; exact below_step (below_alloc (Below.refl _ _) _) (Lb.below_drew _)
  rw [← hw3]
  have c1 := Lb.blk_below b12 q3
  have c2 := Lb.blk_below b2 q3
  have hok : (Dk.mk0 n).Ok := ⟨by simp [Dk.mk0], by rw [hl]; exact h1, by rw [hl]; exact h2, fun s hs => by rw [List.eq_of_mem_replicate hs]; exact Nat.zero_le _, fun s hs => by rw [List.eq_of_mem_replicate hs]; exact Nat.zero_le _, fun x hx => by simp [Dk.mk0] at hx, Nat.zero_le _⟩
  refine ⟨⟨a, b, .slice none 0 0, 0, 0, b3, ⟨rfl, .inl ⟨rfl, rfl⟩⟩, ?_, ?_, by omega, by omega, by omega, by omega, hok⟩, (q1.trans (q2.mono (by omega))).trans (q3.mono (by omega))⟩
  · rcases hab with ⟨rfl, _⟩ | ⟨rfl, _⟩
    · exact c1
    · exact c2
  · rcases hab with ⟨_, rfl⟩ | ⟨_, rfl⟩
    · exact c2
    · exact c1
theorem new_calls (n : Nat) (w : World) (h1 : 1 ≤ n) (h2 : n ≤ 1026) :
    Calls Tryd.prog 9 #[.int .i64 n] w fun e w' => ∃ g, e = .returned (.tuple #[.pointer (some ⟨g, 0, none⟩), .int .i64 0]) ∧ DAt w.heap.size w' g (Dk.mk0 n) ∧ Below w.heap.size w w' := by
  have hmk : ∀ w, (Instr.makeSlice 22 (.int .i64 (n : Int)) (.int .i64 (n : Int))).run Tryd.prog w = .ok (.slice (some ⟨w.heap.size, 0, none⟩) n n) (w.alloc (.cells (madeCells #[Value.string ⟨#[]⟩] n) 9)) := by
    intro w
    obtain ⟨i, hi, hz⟩ := Option.map_eq_some_iff.1 (show ((Tryd.prog).info? 9).map (fun i => (i.zero, i.size, i.bytes)) = some (some (.string ⟨#[]⟩), 1, 16) by kernel_rfl)
    simp only [Prod.mk.injEq] at hz
    have h := run_make (P := Tryd.prog) w 22 9 i (.string ⟨#[]⟩) Tryd.underlying22 hi hz.1 .i64 .i64 n n (by omega) (Int.le_refl _) (by rw [hz.2.2]; omega) (by omega)
    rw [hz.2.1] at h
    exact h.trans (by simp [Value.cells])
  have n1 : decide ((n : Int) < 1) = false := decide_eq_false (by omega)
  have n1' : ¬ ((n : Int) < 1) := by omega
  have n2 : decide ((1026 : Int) < (n : Int)) = false := decide_eq_false (by omega)
  have n2' : decide (1026 < n) = false := decide_eq_false (by omega)
  go_enter Tryd.func9, Tryd.ntmps9
  go_wp2
  go_region
  · go_wp2
    go_ret2
    exact ⟨_, rfl, new_fin w n _ _ h1 h2 (.inl ⟨rfl, rfl⟩)⟩
  · go_wp2
    go_ret2
    exact ⟨_, rfl, new_fin w n _ _ h1 h2 (.inr ⟨rfl, rfl⟩)⟩
end Go.Proofs.YtfiocakhgpdlfaaDoor.Sg
