/- Iterators over an empty map: nothing comes; what slices.Collect makes of them is nil; nil is sorted. -/
import Derived.Test.YtnmkgmfpnepmmaaGreatDoorLib
import Derived.Test.YtnmkgmfpnepmmaaGreatDoorPAx0
import Derived.Shelf.SlIterI.Nil
import Derived.Shelf.Small.Bits
import Derived.RangeFuncFrom
import Derived.Maps.OwnOps
import Derived.Maps.Views
import Derived.Test.YtnmkgmfpnepmmaaGreatDoorSh
namespace Go.Proofs.YtnmkgmfpnepmmaaGreatDoor.Mp
open Go.RowKit Go.Maps Go.Sort Go.Shelf Go.Proofs.YtnmkgmfpnepmmaaGreatDoorW.PrintWords Go.Proofs.YtnmkgmfpnepmmaaGreatDoorW.PrintLast Go.Proofs.YtnmkgmfpnepmmaaGreatDoorW.PrintMore
set_option linter.unusedVariables false
set_option linter.unusedSimpArgs false
set_option maxRecDepth 100000

abbrev noEnc : Empty → Array Value := fun x => x.elim

theorem ownFrom_nil (B Bs : Nat) (T : TypeId) (w : World) (h : Bs < B) (hw : w.heap.size ≤ B) :
    OwnFrom (β := List Empty) B (fun _ W => W.heap[Bs]? = some (.cells #[.slice none 0 0] T (0, 0)) ∧ Below w.heap.size w W) := by
  intro s W W' row hs hg hr
  exact ⟨(hg.block Bs (blk_lt hs.1) (fun e => by have := (hr Bs e.symm).1; omega)).trans hs.1, hs.2.grown hg hs.2.size (fun k e => Nat.le_trans hw (hr k e).1)⟩

theorem kstop (Bm b nn : Nat) (R : Value → Option (DataW Unit × List MemPlace)) (D0 : DataW Unit) (w : World) (hBm : Bm < w.heap.size) (hm : w.cell? ⟨Bm, 0, none⟩ = some (.map (some b)))
    (hown : w.ownsMap Tryz.prog 3 R b nn D0) (hz : Maps.size D0 = 0) :
    SeqStopsK (α := Empty) Fence.wide 5 Tryz.prog 33 #[.pointer (some ⟨Bm, 0, none⟩)] noEnc (fun _ _ => True) (fun _ => True) (fun _ => False) 0 w := by
  intro l J Jx W hW hJ _ _ h0
  have hm' := (hW.cell (p := ⟨Bm, 0, none⟩) hBm).trans hm
  have hown' : W.ownsMap Tryz.prog 3 R b nn D0 := by
    have hbl := hown.lt
    obtain ⟨es, clock, hb, Ft, hs, hD⟩ := hown
    exact ⟨es, clock, (hW.block b hbl).trans hb, Ft, hs, hD⟩
  clear hm hown hW hBm
  have u1 := run_underlying Tryz.underlying57
  have u2 := run_underlying Tryz.underlying3
  refine callsIn_of_wp Tryz.func33 rfl trivial ?_ rfl
  simp only [show Tryz.f33.ntmps = 14 from rfl, List.size_toArray, List.length_cons, List.length_nil, Nat.reduceAdd, Nat.reduceSub, Array.replicate_succ, Array.replicate_zero, List.push_toArray, List.append_toArray, List.nil_append, List.cons_append]
  gi_wp2_with (first
    | (gi_at_range; refine wpListIn_range_own _ rfl _ 57 rfl 3 58 (int_keyed Tryz.underlying3) Tryz.underlying57 _ b nn _ rfl hown' ?_; intro w0 hrg0 hg0 hs0)
    | gi_in)
  try go_frame
  gi_loopw [3] (fun _ wr => ∃ (left : Lit → Bool) (cnt : Nat), wr.ranges Tryz.prog 3 R b W.heap.size nn D0 left cnt ∧ cnt ≤ 0 ∧ J [] wr)
    (fun _ wr => wr.rangeLeft b W.heap.size)
  case atStart => exact ⟨_, _, hrg0, by omega, hJ [] W w0 none h0 hg0 (fun r e => by cases e)⟩
  case round =>
    obtain ⟨left, cnt, hrg, hcs, hJs⟩ := hrel
    gi_wp2_with (first
      | (gi_at_next; refine wpListIn_next_ranges _ rfl _ rfl 3 (int_keyed Tryz.underlying3) R encZ id (fun key kl hk => by obtain ⟨x, hx, _⟩ := Maps.keyOf_i64 Tryz.underlying3 hk; exact ⟨x, hx⟩) (fun v _ _ => ⟨v, rfl⟩) b W.heap.size nn _ _ _ rfl hrg ?_ ?_)
      | gi_in)
    · intro hc0 hl0
      gi_wp2
      go_end0
      exact ⟨⟨_, rfl⟩, .inl ⟨[], trivial, hJs⟩⟩
    · intro x c kl yd yp w2 cnt2 hkey hlk hv hat hrg2 hlt hg2 hs2 hen
      omega

theorem vstop (Bm b nn : Nat) (R : Value → Option (DataW Unit × List MemPlace)) (D0 : DataW Unit) (w : World) (hBm : Bm < w.heap.size) (hm : w.cell? ⟨Bm, 0, none⟩ = some (.map (some b)))
    (hown : w.ownsMap Tryz.prog 3 R b nn D0) (hz : Maps.size D0 = 0) :
    SeqStopsK (α := Empty) Fence.wide 5 Tryz.prog 45 #[.pointer (some ⟨Bm, 0, none⟩)] noEnc (fun _ _ => True) (fun _ => True) (fun _ => False) 0 w := by
  intro l J Jx W hW hJ _ _ h0
  have hm' := (hW.cell (p := ⟨Bm, 0, none⟩) hBm).trans hm
  have hown' : W.ownsMap Tryz.prog 3 R b nn D0 := by
    have hbl := hown.lt
    obtain ⟨es, clock, hb, Ft, hs, hD⟩ := hown
    exact ⟨es, clock, (hW.block b hbl).trans hb, Ft, hs, hD⟩
  clear hm hown hW hBm
  have u1 := run_underlying Tryz.underlying65
  have u2 := run_underlying Tryz.underlying3
  refine callsIn_of_wp Tryz.func45 rfl trivial ?_ rfl
  simp only [show Tryz.f45.ntmps = 15 from rfl, List.size_toArray, List.length_cons, List.length_nil, Nat.reduceAdd, Nat.reduceSub, Array.replicate_succ, Array.replicate_zero, List.push_toArray, List.append_toArray, List.nil_append, List.cons_append]
  gi_wp2_with (first
    | (gi_at_range; refine wpListIn_range_own _ rfl _ 65 rfl 3 78 (int_keyed Tryz.underlying3) Tryz.underlying65 _ b nn _ rfl hown' ?_; intro w0 hrg0 hg0 hs0)
    | gi_in)
  try go_frame
  gi_loopw [4] (fun _ wr => ∃ (left : Lit → Bool) (cnt : Nat), wr.ranges Tryz.prog 3 R b W.heap.size nn D0 left cnt ∧ cnt ≤ 0 ∧ J [] wr)
    (fun _ wr => wr.rangeLeft b W.heap.size)
  case atStart => exact ⟨_, _, hrg0, by omega, hJ [] W w0 none h0 hg0 (fun r e => by cases e)⟩
  case round =>
    obtain ⟨left, cnt, hrg, hcs, hJs⟩ := hrel
    gi_wp2_with (first
      | (gi_at_next; refine wpListIn_next_ranges _ rfl _ rfl 3 (int_keyed Tryz.underlying3) R encZ id (fun key kl hk => by obtain ⟨x, hx, _⟩ := Maps.keyOf_i64 Tryz.underlying3 hk; exact ⟨x, hx⟩) (fun v _ _ => ⟨v, rfl⟩) b W.heap.size nn _ _ _ rfl hrg ?_ ?_)
      | gi_in)
    · intro hc0 hl0
      gi_wp2
      go_end0
      exact ⟨⟨_, rfl⟩, .inl ⟨[], trivial, hJs⟩⟩
    · intro x c kl yd yp w2 cnt2 hkey hlk hv hat hrg2 hlt hg2 hs2 hen
      omega

theorem kapp (Bm b nn : Nat) (R : Value → Option (DataW Unit × List MemPlace)) (D0 : DataW Unit) (w : World) (hBm : Bm < w.heap.size) (hm : w.cell? ⟨Bm, 0, none⟩ = some (.map (some b)))
    (hown : w.ownsMap Tryz.prog 3 R b nn D0) (hz : Maps.size D0 = 0) :
    CallsIn Fence.wide 6 Tryz.prog 54 #[.slice none 0 0, .func (.func 33) #[] #[.pointer (some ⟨Bm, 0, none⟩)]] w fun e w' => e = .returned (.slice none 0 0) ∧ Below w.heap.size w w' := by
  have u1 := run_underlying Tryz.underlying33
  have hseq := kstop Bm b nn R D0 w hBm hm hown hz
  clear hm hown hBm hz
  refine callsIn_of_wp_marks Tryz.func54 rfl trivial ?_ rfl
  simp only [show Tryz.f54.ntmps = 13 from rfl, List.size_toArray, List.length_cons, List.length_nil, Nat.reduceAdd, Nat.reduceSub, Array.replicate_succ, Array.replicate_zero, List.push_toArray, List.append_toArray, List.nil_append, List.cons_append]
  gi_wp2
  obtain ⟨W0, hW0⟩ : ∃ W0, w.alloc (.cells #[.slice none 0 0] 33) = W0 := ⟨_, rfl⟩
  have hs0 : W0.heap.size = w.heap.size + 1 := by rw [← hW0]; simp
  have hv0 : W0.heap[w.heap.size]? = some (.cells #[.slice none 0 0] 33 (0, 0)) := by rw [← hW0]; exact World.alloc_heap_new w _
  have hb0 : Below w.heap.size w W0 := by rw [← hW0]; exact (Below.refl _ w).alloc (Nat.le_refl _) _
  rw [hW0]
  refine wpIn_rangeFunc_ownF rfl (by omega) rfl trivial (enters_of Tryz.func33 (by kernel_rfl) rfl) hseq (fun _ _ => trivial) (fun _ _ _ _ _ _ _ _ => trivial) hb0 (fun x => x.elim)
    (fun _ W => W.heap[w.heap.size]? = some (.cells #[.slice none 0 0] 33 (0, 0)) ∧ Below w.heap.size w W) (fun _ _ _ => False) (ownFrom_nil _ _ _ w (by omega) (by omega)) (fun c s W W' row h => h.elim) ⟨hv0, hb0⟩ (fun x => x.elim) (fun l x => x.elim) (fun l pre x => x.elim) ?_ (fun D c pre W _ h => h.elim)
  intro D xs W hD _ ⟨hv, hb⟩ hK
  obtain ⟨hc, hf⟩ := cell_of_box_a hv
  gi_wp2
  refine ⟨by simp, .inl ⟨_, _, rfl, run_takeDeferred hK, ?_⟩⟩
  exact ⟨_, results_tmp rfl _ _ _, rfl, hb.grown (grownBy_putObj_a _ _ _) hb.size (fun k e => by cases e; omega)⟩

theorem kcol (Bm b nn : Nat) (R : Value → Option (DataW Unit × List MemPlace)) (D0 : DataW Unit) (w : World) (hBm : Bm < w.heap.size) (hm : w.cell? ⟨Bm, 0, none⟩ = some (.map (some b)))
    (hown : w.ownsMap Tryz.prog 3 R b nn D0) (hz : Maps.size D0 = 0) :
    Calls Tryz.prog 31 #[.func (.func 33) #[] #[.pointer (some ⟨Bm, 0, none⟩)]] w fun e w' => e = .returned (.slice none 0 0) ∧ Below w.heap.size w w' := by
  have HC := callsIn_wide.1 (kapp Bm b nn R D0 w hBm hm hown hz)
  clear hBm hm hown hz
  go_enter Tryz.func31, Tryz.ntmps31
  go_wp2_with (go_at_call 54; refine HC.mono ?_; rintro e w1 ⟨rfl, hb1⟩)
  go_ret
  exact ⟨rfl, hb1⟩

theorem vapp (Bm b nn : Nat) (R : Value → Option (DataW Unit × List MemPlace)) (D0 : DataW Unit) (w : World) (hBm : Bm < w.heap.size) (hm : w.cell? ⟨Bm, 0, none⟩ = some (.map (some b)))
    (hown : w.ownsMap Tryz.prog 3 R b nn D0) (hz : Maps.size D0 = 0) :
    CallsIn Fence.wide 6 Tryz.prog 72 #[.slice none 0 0, .func (.func 45) #[] #[.pointer (some ⟨Bm, 0, none⟩)]] w fun e w' => e = .returned (.slice none 0 0) ∧ Below w.heap.size w w' := by
  have u1 := run_underlying Tryz.underlying38
  have hseq := vstop Bm b nn R D0 w hBm hm hown hz
  clear hm hown hBm hz
  refine callsIn_of_wp_marks Tryz.func72 rfl trivial ?_ rfl
  simp only [show Tryz.f72.ntmps = 13 from rfl, List.size_toArray, List.length_cons, List.length_nil, Nat.reduceAdd, Nat.reduceSub, Array.replicate_succ, Array.replicate_zero, List.push_toArray, List.append_toArray, List.nil_append, List.cons_append]
  gi_wp2
  obtain ⟨W0, hW0⟩ : ∃ W0, w.alloc (.cells #[.slice none 0 0] 38) = W0 := ⟨_, rfl⟩
  have hs0 : W0.heap.size = w.heap.size + 1 := by rw [← hW0]; simp
  have hv0 : W0.heap[w.heap.size]? = some (.cells #[.slice none 0 0] 38 (0, 0)) := by rw [← hW0]; exact World.alloc_heap_new w _
  have hb0 : Below w.heap.size w W0 := by rw [← hW0]; exact (Below.refl _ w).alloc (Nat.le_refl _) _
  rw [hW0]
  refine wpIn_rangeFunc_ownF rfl (by omega) rfl trivial (enters_of Tryz.func45 (by kernel_rfl) rfl) hseq (fun _ _ => trivial) (fun _ _ _ _ _ _ _ _ => trivial) hb0 (fun x => x.elim)
    (fun _ W => W.heap[w.heap.size]? = some (.cells #[.slice none 0 0] 38 (0, 0)) ∧ Below w.heap.size w W) (fun _ _ _ => False) (ownFrom_nil _ _ _ w (by omega) (by omega)) (fun c s W W' row h => h.elim) ⟨hv0, hb0⟩ (fun x => x.elim) (fun l x => x.elim) (fun l pre x => x.elim) ?_ (fun D c pre W _ h => h.elim)
  intro D xs W hD _ ⟨hv, hb⟩ hK
  obtain ⟨hc, hf⟩ := cell_of_box_a hv
  gi_wp2
  refine ⟨by simp, .inl ⟨_, _, rfl, run_takeDeferred hK, ?_⟩⟩
  exact ⟨_, results_tmp rfl _ _ _, rfl, hb.grown (grownBy_putObj_a _ _ _) hb.size (fun k e => by cases e; omega)⟩

theorem vcol (Bm b nn : Nat) (R : Value → Option (DataW Unit × List MemPlace)) (D0 : DataW Unit) (w : World) (hBm : Bm < w.heap.size) (hm : w.cell? ⟨Bm, 0, none⟩ = some (.map (some b)))
    (hown : w.ownsMap Tryz.prog 3 R b nn D0) (hz : Maps.size D0 = 0) :
    Calls Tryz.prog 43 #[.func (.func 45) #[] #[.pointer (some ⟨Bm, 0, none⟩)]] w fun e w' => e = .returned (.slice none 0 0) ∧ Below w.heap.size w w' := by
  have HC := callsIn_wide.1 (vapp Bm b nn R D0 w hBm hm hown hz)
  clear hBm hm hown hz
  go_enter Tryz.func43, Tryz.ntmps43
  go_wp2_with (go_at_call 72; refine HC.mono ?_; rintro e w1 ⟨rfl, hb1⟩)
  go_ret
  exact ⟨rfl, hb1⟩
end Go.Proofs.YtnmkgmfpnepmmaaGreatDoor.Mp
