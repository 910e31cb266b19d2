/- shape.nfsOf out of its procedures; shape.Of. -/
import Derived.Test.YtgfljlbecafipaaDoorMo
import Derived.Test.YtgfljlbecafipaaDoorWr
import Derived.Test.YtgfljlbecafipaaDoorEv
import Derived.Test.YtgfljlbecafipaaDoorProg
import Derived.Laws.ResultCell
import Derived.RegionTactic
import Derived.RegionCalls
import Derived.KernelRfl
namespace Go.Proofs.YtgfljlbecafipaaDoor.Mo
open Go.RowKit Go.Proofs.YtgfljlbecafipaaDoorW.PrintWords Go.Proofs.YtgfljlbecafipaaDoorW.PrintLast Go.Proofs.YtgfljlbecafipaaDoorW.PrintMore
set_option linter.unusedVariables false
set_option linter.unusedSimpArgs false


set_option maxRecDepth 100000 in
set_option maxHeartbeats 4000000 in
theorem nfsOf_out (p : Int) (h : p < 1 ∨ 22 ≤ p) (w : World) :
    Calls Tryd.prog 9 #[.int .i64 p] w fun e w' => e = .returned (.tuple #[.agg #[.string ⟨#[]⟩, .string ⟨#[]⟩, .string ⟨#[]⟩], .bool false]) ∧ Below w.heap.size w w' := by
  have hcase : (p < 1) ∨ (¬ p < 1 ∧ 22 ≤ p) := by omega
  rcases hcase with h1 | ⟨h1, h6⟩
  all_goals
    go_enter Tryd.func9, Tryd.ntmps9
    go_wp2_with (first
      | ((with_reducible refine gate_dst (N := 2) rfl ?_); refine box_event ?hg (N := 2) ?hd (cs := #[.string ⟨#[]⟩, .string ⟨#[]⟩, .string ⟨#[]⟩]) (t := 28) ?hr ?_; (case hd => rfl); (case hg => rfl); (case hr => first | (go_simp; done) | (go_simp; rfl)); intro g1 hg1 w1 hbox1 hb1; have HB1 := Aside0.mk hb1; have HX1 := Aside0.mk hbox1; have HG1 := Aside0.mk (show w.heap.size ≤ g1 by omega); clear hbox1 hb1 hg1)
      | ((with_reducible refine gate_dst (N := 5) rfl ?_); refine box_event ?hg (N := 5) ?hd (cs := (List.replicate 66 (Value.string ⟨#[]⟩)).toArray) (t := 39) ?hr ?_; (case hd => rfl); (case hg => rfl); (case hr => first | (go_simp; done) | (go_simp; rfl)); intro g2 hg2 w2 hbox2 hb2; have HB2 := Aside0.mk hb2; have HX2 := Aside0.mk hbox2; have hlt1 := blk_lt HX1.out; have HN := Aside0.mk (show g1 ≠ g2 by omega); have HG2 := Aside0.mk (show w.heap.size ≤ g2 by have := HG1.out; omega); clear hbox2 hb2 hg2 hlt1)
      | ((with_reducible refine gate_store (t := 39) (p := 5) rfl ?_); refine Lb.store_whole rfl rfl 39 (.tmp 5) (.tmp 32) rfl (new := (cellsOf3 nTab).toArray) rfl rfl HX2.out rfl (by kernel_rfl) (cellsOf3_one nTab) ?_; intro w3 hb3 hg3; have hx1 := Lb.blk_grown' (Lb.blk_below HX1.out HB2.out) hg3 HN.out; have HX3 := Aside0.mk hx1; have HB3 := Aside0.mk (Lb.grown_below (below_step HB1.out HB2.out) hg3 (below_step HB1.out HB2.out).size HG2.out); clear hb3 hg3 hx1)
      | ((with_reducible refine gate_store (t := 28) (p := 2) rfl ?_); refine Lb.store_whole rfl rfl 28 (.tmp 2) (.tmp 39) rfl (new := #[.string ⟨#[]⟩, .string ⟨#[]⟩, .string ⟨#[]⟩]) rfl rfl HX3.out rfl (by kernel_rfl) (by simp [Value.oneCell']) ?_; intro w4 hb4 hg4; have HX4 := Aside0.mk hb4; have HB4 := Aside0.mk (Lb.grown_below HB3.out hg4 HB3.out.size HG1.out); clear hb4 hg4))
    have e0 := (blk_cell HX4.out 0).trans rfl
    have e1 := (blk_cell HX4.out 1).trans rfl
    have e2 := (blk_cell HX4.out 2).trans rfl
    refine bodyPost_ret_by (v := .tuple #[.agg #[.string ⟨#[]⟩, .string ⟨#[]⟩, .string ⟨#[]⟩], .bool false]) ?_ rfl ⟨rfl, HB4.out⟩
    rw [results_cell_tmp (p := 2) (u := 3) (ty := 28) rfl]
    go_simp
    first | done | rfl

/-- the forms ahead of their writing out -/
def rawOf (g p : Int) : ByteArray × ByteArray × ByteArray × Bool :=
  if g = 100003 ∧ 1 ≤ p ∧ p < 22 then (let x := nTab.getD p.toNat (⟨#[]⟩, ⟨#[]⟩, ⟨#[]⟩); (x.1, right x.2.1 x.2.2, x.2.2, true))
  else if g = 100005 ∧ 1 ≤ p ∧ p < 6 then (let x := mTab.getD p.toNat (⟨#[]⟩, ⟨#[]⟩, ⟨#[]⟩); (x.1, x.2.1, x.2.2, true))
  else (⟨#[]⟩, ⟨#[]⟩, ⟨#[]⟩, decide (p = 0 ∧ (g = 100003 ∨ g = 100005)))
def ofF (g p : Int) : List UInt8 × List UInt8 × Bool := (Rb.wr (rawOf g p).1.data.toList, Rb.wr (rawOf g p).2.1.data.toList, (rawOf g p).2.2.2)

theorem nfs_any (p : Int) (w : World) : Calls Tryd.prog 9 #[.int .i64 p] w fun e w' => e = .returned (.tuple #[.agg #[.string (rawOf 100003 p).1, .string (rawOf 100003 p).2.1, .string (rawOf 100003 p).2.2.1], .bool (decide (1 ≤ p ∧ p < 22))]) ∧ Below w.heap.size w w' := by
  by_cases h : 1 ≤ p ∧ p < 22
  · obtain ⟨n, rfl⟩ : ∃ n : Nat, p = n := ⟨p.toNat, by omega⟩
    have hlt : n < nTab.length := by show n < 22; omega
    have hg := List.getElem?_eq_getElem hlt
    have hb := (List.all_eq_true.1 (show (nTab.all fun x => decide (x.2.1.size ≤ 100) && decide (x.2.2.size ≤ 100)) = true by kernel_rfl)) _ (List.getElem_mem hlt)
    have hb' : nTab[n].2.1.size ≤ 100 ∧ nTab[n].2.2.size ≤ 100 := by simpa using hb
    have e : rawOf 100003 n = (nTab[n].1, right nTab[n].2.1 nTab[n].2.2, nTab[n].2.2, true) := by
      rw [rawOf, if_pos ⟨rfl, h⟩]
      simp only [Int.toNat_natCast, List.getD_eq_getElem?_getD, hg, Option.getD_some]
    rw [e, decide_eq_true h]
    exact nfsOf_in n (by omega) (by omega) _ _ _ hg hb'.1 hb'.2 w
  · have e : rawOf 100003 p = (⟨#[]⟩, ⟨#[]⟩, ⟨#[]⟩, decide (p = 0 ∧ ((100003 : Int) = 100003 ∨ (100003 : Int) = 100005))) := by
      rw [rawOf, if_neg (by omega), if_neg (by omega)]
    rw [e, decide_eq_false h]
    exact nfsOf_out p (by omega) w
theorem mount_any (p : Int) (w : World) : Calls Tryd.prog 10 #[.int .i64 p] w fun e w' => e = .returned (.tuple #[.agg #[.string (rawOf 100005 p).1, .string (rawOf 100005 p).2.1, .string (rawOf 100005 p).2.2.1], .bool (decide (1 ≤ p ∧ p < 6))]) ∧ Below w.heap.size w w' := by
  by_cases h : 1 ≤ p ∧ p < 6
  · obtain ⟨n, rfl⟩ : ∃ n : Nat, p = n := ⟨p.toNat, by omega⟩
    have hlt : n < mTab.length := by show n < 6; omega
    have hg := List.getElem?_eq_getElem hlt
    have e : rawOf 100005 n = (mTab[n].1, mTab[n].2.1, mTab[n].2.2, true) := by
      rw [rawOf, if_neg (by omega), if_pos ⟨rfl, h⟩]
      simp only [Int.toNat_natCast, List.getD_eq_getElem?_getD, hg, Option.getD_some]
    rw [e, decide_eq_true h]
    exact mountOf_in n (by omega) (by omega) _ _ _ hg w
  · have e : rawOf 100005 p = (⟨#[]⟩, ⟨#[]⟩, ⟨#[]⟩, decide (p = 0 ∧ ((100005 : Int) = 100003 ∨ (100005 : Int) = 100005))) := by
      rw [rawOf, if_neg (by omega), if_neg (by omega)]
    rw [e, decide_eq_false h]
    exact mountOf_out p (by omega) w

/-- all of them are short -/
theorem raw_short (g p : Int) : (rawOf g p).1.size ≤ 1000 ∧ (rawOf g p).2.1.size ≤ 1000 ∧ (Rb.wr1 (rawOf g p).1.data.toList).length < 56 ∧ (Rb.wr1 (rawOf g p).2.1.data.toList).length < 56 := by
  have e0 : (⟨#[]⟩ : ByteArray).size ≤ 1000 ∧ (⟨#[]⟩ : ByteArray).size ≤ 1000 ∧ (Rb.wr1 (⟨#[]⟩ : ByteArray).data.toList).length < 56 ∧ (Rb.wr1 (⟨#[]⟩ : ByteArray).data.toList).length < 56 := by decide
  unfold rawOf
  split
  · rename_i h
    have hb := (List.all_eq_true.1 (show ((List.range 22).all fun n => decide ((nTab.getD n (⟨#[]⟩, ⟨#[]⟩, ⟨#[]⟩)).1.size ≤ 1000 ∧ (right (nTab.getD n (⟨#[]⟩, ⟨#[]⟩, ⟨#[]⟩)).2.1 (nTab.getD n (⟨#[]⟩, ⟨#[]⟩, ⟨#[]⟩)).2.2).size ≤ 1000 ∧ (Rb.wr1 (nTab.getD n (⟨#[]⟩, ⟨#[]⟩, ⟨#[]⟩)).1.data.toList).length < 56 ∧ (Rb.wr1 (right (nTab.getD n (⟨#[]⟩, ⟨#[]⟩, ⟨#[]⟩)).2.1 (nTab.getD n (⟨#[]⟩, ⟨#[]⟩, ⟨#[]⟩)).2.2).data.toList).length < 56)) = true by kernel_rfl)) p.toNat (List.mem_range.2 (by omega))
    exact of_decide_eq_true hb
  · split
    · rename_i h
      have hb := (List.all_eq_true.1 (show ((List.range 6).all fun n => decide ((mTab.getD n (⟨#[]⟩, ⟨#[]⟩, ⟨#[]⟩)).1.size ≤ 1000 ∧ (mTab.getD n (⟨#[]⟩, ⟨#[]⟩, ⟨#[]⟩)).2.1.size ≤ 1000 ∧ (Rb.wr1 (mTab.getD n (⟨#[]⟩, ⟨#[]⟩, ⟨#[]⟩)).1.data.toList).length < 56 ∧ (Rb.wr1 (mTab.getD n (⟨#[]⟩, ⟨#[]⟩, ⟨#[]⟩)).2.1.data.toList).length < 56)) = true by kernel_rfl)) p.toNat (List.mem_range.2 (by omega))
      exact of_decide_eq_true hb
    · exact e0
end Go.Proofs.YtgfljlbecafipaaDoor.Mo
