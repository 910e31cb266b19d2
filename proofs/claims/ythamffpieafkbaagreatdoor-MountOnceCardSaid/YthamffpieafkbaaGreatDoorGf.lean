/- shape.mountOf and shape.nfsOf: the forms of each procedure. shape.nfsOf out of its procedures; shape.Of. -/
import Derived.Test.YthamffpieafkbaaGreatDoorGa
import Derived.Test.YthamffpieafkbaaGreatDoorProg
import Derived.Laws.ResultCell
import Derived.RegionTactic
import Derived.RegionCalls
import Derived.KernelRfl
import Derived.Test.YthamffpieafkbaaGreatDoorGe
namespace Go.Proofs.YthamffpieafkbaaGreatDoor.Mo
open Go.RowKit Go.Proofs.YthamffpieafkbaaGreatDoorW.PrintWords Go.Proofs.YthamffpieafkbaaGreatDoorW.PrintLast Go.Proofs.YthamffpieafkbaaGreatDoorW.PrintMore
set_option linter.unusedVariables false
set_option linter.unusedSimpArgs false

def mTab : List (ByteArray × ByteArray × ByteArray) := [
  (⟨#[]⟩, ⟨#[]⟩, ⟨#[]⟩),
  (⟨#[84]⟩, ⟨#[60, 48, 58, 72, 60, 49, 58, 117, 62, 44, 45, 58, 62]⟩, ⟨#[]⟩),
  (⟨#[]⟩, ⟨#[42, 40, 78, 84, 41]⟩, ⟨#[]⟩),
  (⟨#[84]⟩, ⟨#[]⟩, ⟨#[]⟩),
  (⟨#[]⟩, ⟨#[]⟩, ⟨#[]⟩),
  (⟨#[]⟩, ⟨#[42, 40, 84, 42, 40, 78, 41, 41]⟩, ⟨#[]⟩)]
def nTab : List (ByteArray × ByteArray × ByteArray) := [
  (⟨#[]⟩, ⟨#[]⟩, ⟨#[]⟩),
  (⟨#[72]⟩, ⟨#[65]⟩, ⟨#[]⟩),
  (⟨#[72, 83, 63, 40, 117, 117, 41]⟩, ⟨#[87]⟩, ⟨#[87]⟩),
  (⟨#[72, 78]⟩, ⟨#[72, 80, 80]⟩, ⟨#[80]⟩),
  (⟨#[72, 117]⟩, ⟨#[80, 117]⟩, ⟨#[80]⟩),
  (⟨#[72]⟩, ⟨#[80, 84]⟩, ⟨#[80]⟩),
  (⟨#[72, 113, 117]⟩, ⟨#[80, 117, 98, 68]⟩, ⟨#[80]⟩),
  (⟨#[72, 113, 117, 117, 68]⟩, ⟨#[87, 117, 117, 102, 56]⟩, ⟨#[87]⟩),
  (⟨#[72, 78, 60, 48, 58, 83, 44, 49, 58, 83, 44, 50, 58, 102, 56, 62]⟩, ⟨#[63, 40, 72, 41, 80, 87]⟩, ⟨#[87]⟩),
  (⟨#[72, 78, 83]⟩, ⟨#[63, 40, 72, 41, 80, 87]⟩, ⟨#[87]⟩),
  (⟨#[72, 78, 83, 84]⟩, ⟨#[63, 40, 72, 41, 80, 87]⟩, ⟨#[87]⟩),
  (⟨#[72, 78, 60, 51, 58, 83, 117, 117, 44, 52, 58, 83, 117, 117, 44, 54, 58, 83, 44, 55, 58, 83, 44, 45, 58, 62]⟩, ⟨#[63, 40, 72, 41, 80, 87]⟩, ⟨#[87]⟩),
  (⟨#[72, 78]⟩, ⟨#[87]⟩, ⟨#[87]⟩),
  (⟨#[72, 78]⟩, ⟨#[87]⟩, ⟨#[87]⟩),
  (⟨#[72, 78, 72, 78]⟩, ⟨#[87, 87]⟩, ⟨#[87, 87]⟩),
  (⟨#[72, 72, 78]⟩, ⟨#[80, 87]⟩, ⟨#[80, 87]⟩),
  (⟨#[72, 113, 102, 56, 117]⟩, ⟨#[80, 102, 56, 42, 40, 113, 78, 113, 41, 98]⟩, ⟨#[80]⟩),
  (⟨#[72, 113, 102, 56, 117, 117]⟩, ⟨#[80, 102, 56, 42, 40, 113, 78, 113, 80, 63, 40, 72, 41, 41, 98]⟩, ⟨#[80]⟩),
  (⟨#[72]⟩, ⟨#[80, 113, 113, 113, 113, 113, 113, 117]⟩, ⟨#[80]⟩),
  (⟨#[72]⟩, ⟨#[80, 117, 117, 117, 117, 117, 117, 117, 113, 117, 117, 117]⟩, ⟨#[80]⟩),
  (⟨#[72]⟩, ⟨#[80, 117, 117, 98, 98, 98, 98]⟩, ⟨#[80]⟩),
  (⟨#[72, 113, 117]⟩, ⟨#[87, 102, 56]⟩, ⟨#[87]⟩)]


def cellsOf3 : List (ByteArray × ByteArray × ByteArray) → List Value
  | [] => []
  | p :: r => .string p.1 :: .string p.2.1 :: .string p.2.2 :: cellsOf3 r
theorem cellsOf3_at : ∀ (L : List (ByteArray × ByteArray × ByteArray)) (i : Nat) (h : i < L.length), (cellsOf3 L)[i * 3]? = some (.string (L[i]'h).1) ∧ (cellsOf3 L)[i * 3 + 1]? = some (.string (L[i]'h).2.1) ∧ (cellsOf3 L)[i * 3 + 2]? = some (.string (L[i]'h).2.2)
  | [], i, h => by simp at h
  | p :: r, 0, h => ⟨rfl, rfl, rfl⟩
  | p :: r, i + 1, h => by
    have ih := cellsOf3_at r i (by simpa using h)
    have e1 : (i + 1) * 3 = i * 3 + 1 + 1 + 1 := by omega
    rw [e1]
    exact ih
theorem cellsOf3_one : ∀ (L : List (ByteArray × ByteArray × ByteArray)), ∀ q ∈ (cellsOf3 L).toArray.toList, q.oneCell' = true
  | [], q, h => by simp [cellsOf3] at h
  | p :: r, q, h => by
    have h' : q = .string p.1 ∨ q = .string p.2.1 ∨ q = .string p.2.2 ∨ q ∈ (cellsOf3 r).toArray.toList := by simpa [cellsOf3] using h
    rcases h' with rfl | rfl | rfl | h'
    · rfl
    · rfl
    · rfl
    · exact cellsOf3_one r q h'

theorem mount_at {w : World} {g t p : Nat} (L : List (ByteArray × ByteArray × ByteArray)) (h : w.heap[g]? = some (.cells (cellsOf3 L).toArray t (0, 0))) (hp : p < L.length) :
    w.cell? ⟨g, p * 3, none⟩ = some (.string (L[p]'hp).1) ∧ w.cell? ⟨g, p * 3 + 1, none⟩ = some (.string (L[p]'hp).2.1) ∧ w.cell? ⟨g, p * 3 + 2, none⟩ = some (.string (L[p]'hp).2.2) := by
  obtain ⟨h0, h1, h2⟩ := cellsOf3_at L p hp
  exact ⟨(blk_cell h _).trans (by rw [List.getElem?_toArray]; exact h0), (blk_cell h _).trans (by rw [List.getElem?_toArray]; exact h1), (blk_cell h _).trans (by rw [List.getElem?_toArray]; exact h2)⟩

set_option maxRecDepth 100000 in
set_option maxHeartbeats 2000000 in
theorem mountOf_in (p : Nat) (h1 : 1 ≤ p) (h6 : p < 6) (a b c : ByteArray) (h : mTab[p]? = some (a, b, c)) (w : World) :
    Calls Tryz.prog 28 #[.int .i64 p] w fun e w' => e = .returned (.tuple #[.agg #[.string a, .string b, .string c], .bool true]) ∧ Below w.heap.size w w' := by
  have HB0 := Aside0.mk (Below.refl w.heap.size w)
  have HP := Aside0.mk h
  have i1 : ¬ ((p : Int) < 1) := by omega
  have i6 : ¬ ((6 : Int) ≤ (p : Int)) := by omega
  have i6' : ((p : Int) < 6) := by omega
  clear h
  go_enter Tryz.func28, Tryz.ntmps28
  go_wp2_with (first
    | ((with_reducible refine gate_dst (N := 2) rfl ?_); refine box_event ?hg (N := 2) ?hd (cs := #[.string ⟨#[]⟩, .string ⟨#[]⟩, .string ⟨#[]⟩]) (t := 75) ?hr ?_; (case hd => rfl); (case hg => rfl); (case hr => first | (go_simp; done) | (go_simp; rfl)); intro g1 hg1 w1 hbox1 hb1; have HB1 := Aside0.mk hb1; have HX1 := Aside0.mk hbox1; have HG1 := Aside0.mk (show w.heap.size ≤ g1 by omega); clear hbox1 hb1 hg1)
    | ((with_reducible refine gate_dst (N := 4) rfl ?_); refine box_event ?hg (N := 4) ?hd (cs := (List.replicate 18 (Value.string ⟨#[]⟩)).toArray) (t := 103) ?hr ?_; (case hd => rfl); (case hg => rfl); (case hr => first | (go_simp; done) | (go_simp; rfl)); intro g2 hg2 w2 hbox2 hb2; have HB2 := Aside0.mk hb2; have HX2 := Aside0.mk hbox2; have hlt1 := blk_lt HX1.out; have HN := Aside0.mk (show g1 ≠ g2 by omega); have HG2 := Aside0.mk (show w.heap.size ≤ g2 by have := HG1.out; omega); clear hbox2 hb2 hg2 hlt1)
    | ((with_reducible refine gate_store (t := 103) (p := 4) rfl ?_); refine Lb.store_whole rfl rfl 103 (.tmp 4) (.tmp 10) rfl (new := (cellsOf3 mTab).toArray) rfl rfl HX2.out rfl (by kernel_rfl) (cellsOf3_one mTab) ?_; intro w3 hb3 hg3; have hx1 := Lb.blk_grown' (Lb.blk_below HX1.out HB2.out) hg3 HN.out; have HX3 := Aside0.mk hx1; obtain ⟨c0, c1, c2⟩ := mount_at mTab hb3 (show p < mTab.length from h6); have e3 := (List.getElem?_eq_some_iff.1 HP.out).2; rw [e3] at c0 c1 c2; have HB3 := Aside0.mk (Lb.grown_below (below_step HB1.out HB2.out) hg3 (below_step HB1.out HB2.out).size HG2.out); clear hb3 hg3 hx1 e3)
    | ((with_reducible refine gate_store (t := 75) (p := 2) rfl ?_); refine Lb.store_whole rfl rfl 75 (.tmp 2) (.tmp 20) rfl (new := #[.string a, .string b, .string c]) rfl rfl HX3.out rfl (by kernel_rfl) (by simp [Value.oneCell']) ?_; intro w4 hb4 hg4; have HX4 := Aside0.mk hb4; have HB4 := Aside0.mk (Lb.grown_below HB3.out hg4 HB3.out.size HG1.out); clear hb4 hg4))
  have e0 := (blk_cell HX4.out 0).trans rfl
  have e1 := (blk_cell HX4.out 1).trans rfl
  have e2 := (blk_cell HX4.out 2).trans rfl
  refine bodyPost_ret_by (v := .tuple #[.agg #[.string a, .string b, .string c], .bool true]) ?_ rfl ⟨rfl, HB4.out⟩
  rw [results_cell_tmp (p := 2) (u := 3) (ty := 75) rfl]
  go_simp
  first | done | rfl

set_option maxRecDepth 100000 in
set_option maxHeartbeats 2000000 in
theorem mountOf_out (p : Int) (h : p < 1 ∨ 6 ≤ p) (w : World) :
    Calls Tryz.prog 28 #[.int .i64 p] w fun e w' => e = .returned (.tuple #[.agg #[.string ⟨#[]⟩, .string ⟨#[]⟩, .string ⟨#[]⟩], .bool false]) ∧ Below w.heap.size w w' := by
  have hcase : (p < 1) ∨ (¬ p < 1 ∧ 6 ≤ p) := by omega
  rcases hcase with h1 | ⟨h1, h6⟩
  all_goals
    go_enter Tryz.func28, Tryz.ntmps28
    go_wp2_with (first
      | ((with_reducible refine gate_dst (N := 2) rfl ?_); refine box_event ?hg (N := 2) ?hd (cs := #[.string ⟨#[]⟩, .string ⟨#[]⟩, .string ⟨#[]⟩]) (t := 75) ?hr ?_; (case hd => rfl); (case hg => rfl); (case hr => first | (go_simp; done) | (go_simp; rfl)); intro g1 hg1 w1 hbox1 hb1; have HB1 := Aside0.mk hb1; have HX1 := Aside0.mk hbox1; have HG1 := Aside0.mk (show w.heap.size ≤ g1 by omega); clear hbox1 hb1 hg1)
      | ((with_reducible refine gate_dst (N := 4) rfl ?_); refine box_event ?hg (N := 4) ?hd (cs := (List.replicate 18 (Value.string ⟨#[]⟩)).toArray) (t := 103) ?hr ?_; (case hd => rfl); (case hg => rfl); (case hr => first | (go_simp; done) | (go_simp; rfl)); intro g2 hg2 w2 hbox2 hb2; have HB2 := Aside0.mk hb2; have HX2 := Aside0.mk hbox2; have hlt1 := blk_lt HX1.out; have HN := Aside0.mk (show g1 ≠ g2 by omega); have HG2 := Aside0.mk (show w.heap.size ≤ g2 by have := HG1.out; omega); clear hbox2 hb2 hg2 hlt1)
      | ((with_reducible refine gate_store (t := 103) (p := 4) rfl ?_); refine Lb.store_whole rfl rfl 103 (.tmp 4) (.tmp 10) rfl (new := (cellsOf3 mTab).toArray) rfl rfl HX2.out rfl (by kernel_rfl) (cellsOf3_one mTab) ?_; intro w3 hb3 hg3; have hx1 := Lb.blk_grown' (Lb.blk_below HX1.out HB2.out) hg3 HN.out; have HX3 := Aside0.mk hx1; have HB3 := Aside0.mk (Lb.grown_below (below_step HB1.out HB2.out) hg3 (below_step HB1.out HB2.out).size HG2.out); clear hb3 hg3 hx1)
      | ((with_reducible refine gate_store (t := 75) (p := 2) rfl ?_); refine Lb.store_whole rfl rfl 75 (.tmp 2) (.tmp 17) rfl (new := #[.string ⟨#[]⟩, .string ⟨#[]⟩, .string ⟨#[]⟩]) rfl rfl HX3.out rfl (by kernel_rfl) (by simp [Value.oneCell']) ?_; intro w4 hb4 hg4; have HX4 := Aside0.mk hb4; have HB4 := Aside0.mk (Lb.grown_below HB3.out hg4 HB3.out.size HG1.out); clear hb4 hg4))
    have e0 := (blk_cell HX4.out 0).trans rfl
    have e1 := (blk_cell HX4.out 1).trans rfl
    have e2 := (blk_cell HX4.out 2).trans rfl
    refine bodyPost_ret_by (v := .tuple #[.agg #[.string ⟨#[]⟩, .string ⟨#[]⟩, .string ⟨#[]⟩], .bool false]) ?_ rfl ⟨rfl, HB4.out⟩
    rw [results_cell_tmp (p := 2) (u := 3) (ty := 75) rfl]
    go_simp
    first | done | rfl

def right (b c : ByteArray) : ByteArray := ((((⟨#[60, 48, 58]⟩ ++ b) ++ ⟨#[44, 45, 58]⟩) ++ c) ++ ⟨#[62]⟩)

set_option maxRecDepth 100000 in
set_option maxHeartbeats 4000000 in
theorem nfsOf_in (p : Nat) (h1 : 1 ≤ p) (h6 : p < 22) (a b c : ByteArray) (h : nTab[p]? = some (a, b, c)) (hbs : b.size ≤ 100) (hcs : c.size ≤ 100) (w : World) :
    Calls Tryz.prog 27 #[.int .i64 p] w fun e w' => e = .returned (.tuple #[.agg #[.string a, .string (right b c), .string c], .bool true]) ∧ Below w.heap.size w w' := by
  have HB0 := Aside0.mk (Below.refl w.heap.size w)
  have HP := Aside0.mk h
  have i1 : ¬ ((p : Int) < 1) := by omega
  have i6 : ¬ ((22 : Int) ≤ (p : Int)) := by omega
  have i6' : ((p : Int) < 22) := by omega
  have z1 : ¬ (9223372036854775807 < 3 + b.size) := by omega
  have z2 : ¬ (9223372036854775807 < 3 + b.size + 3) := by omega
  have z3 : ¬ (9223372036854775807 < 3 + b.size + 3 + c.size) := by omega
  have z4 : ¬ (9223372036854775807 < 3 + b.size + 3 + c.size + 1) := by omega
  clear hbs hcs
  clear h
  go_enter Tryz.func27, Tryz.ntmps27
  go_wp2_with (first
    | ((with_reducible refine gate_dst (N := 2) rfl ?_); refine box_event ?hg (N := 2) ?hd (cs := #[.string ⟨#[]⟩, .string ⟨#[]⟩, .string ⟨#[]⟩]) (t := 75) ?hr ?_; (case hd => rfl); (case hg => rfl); (case hr => first | (go_simp; done) | (go_simp; rfl)); intro g1 hg1 w1 hbox1 hb1; have HB1 := Aside0.mk hb1; have HX1 := Aside0.mk hbox1; have HG1 := Aside0.mk (show w.heap.size ≤ g1 by omega); clear hbox1 hb1 hg1)
    | ((with_reducible refine gate_dst (N := 5) rfl ?_); refine box_event ?hg (N := 5) ?hd (cs := (List.replicate 66 (Value.string ⟨#[]⟩)).toArray) (t := 102) ?hr ?_; (case hd => rfl); (case hg => rfl); (case hr => first | (go_simp; done) | (go_simp; rfl)); intro g2 hg2 w2 hbox2 hb2; have HB2 := Aside0.mk hb2; have HX2 := Aside0.mk hbox2; have hlt1 := blk_lt HX1.out; have HN := Aside0.mk (show g1 ≠ g2 by omega); have HG2 := Aside0.mk (show w.heap.size ≤ g2 by have := HG1.out; omega); clear hbox2 hb2 hg2 hlt1)
    | ((with_reducible refine gate_store (t := 102) (p := 5) rfl ?_); refine Lb.store_whole rfl rfl 102 (.tmp 5) (.tmp 32) rfl (new := (cellsOf3 nTab).toArray) rfl rfl HX2.out rfl (by kernel_rfl) (cellsOf3_one nTab) ?_; intro w3 hb3 hg3; have hx1 := Lb.blk_grown' (Lb.blk_below HX1.out HB2.out) hg3 HN.out; have HX3 := Aside0.mk hx1; obtain ⟨c0, c1, c2⟩ := mount_at nTab hb3 (show p < nTab.length from h6); have e3 := (List.getElem?_eq_some_iff.1 HP.out).2; rw [e3] at c0 c1 c2; have HB3 := Aside0.mk (Lb.grown_below (below_step HB1.out HB2.out) hg3 (below_step HB1.out HB2.out).size HG2.out); clear hb3 hg3 hx1 e3)
    | ((with_reducible refine gate_dst (N := 6) rfl ?_); refine box_event ?hg (N := 6) ?hd (cs := #[.string ⟨#[]⟩, .string ⟨#[]⟩, .string ⟨#[]⟩]) (t := 75) ?hr ?_; (case hd => rfl); (case hg => rfl); (case hr => first | (go_simp; done) | (go_simp; rfl)); intro g4 hg4 w4 hbox4 hb4; have HB4 := Aside0.mk (below_step HB3.out hb4); have HX4 := Aside0.mk hbox4; have HX14 := Aside0.mk (Lb.blk_below HX3.out hb4); have hlt1 := blk_lt HX3.out; have HN4 := Aside0.mk (show g1 ≠ g4 by omega); have HG4 := Aside0.mk (show w.heap.size ≤ g4 by have := HB3.out.size; omega); clear hbox4 hb4 hg4 hlt1; clear c0 c1 c2)
    | ((with_reducible refine gate_store (t := 75) (p := 6) rfl ?_); refine Lb.store_whole rfl rfl 75 (.tmp 6) (.tmp 42) rfl (new := #[.string a, .string b, .string c]) rfl rfl HX4.out rfl (by kernel_rfl) (by simp [Value.oneCell']) ?_; intro w5 hb5 hg5; have HX5 := Aside0.mk hb5; have HX15 := Aside0.mk (Lb.blk_grown' HX14.out hg5 HN4.out); have HB5 := Aside0.mk (Lb.grown_below HB4.out hg5 HB4.out.size HG4.out); have d1 := (blk_cell hb5 1).trans rfl; have d2 := (blk_cell hb5 2).trans rfl; clear hb5 hg5)
    | ((with_reducible refine gate_store (t := 9) (p := 51) rfl ?_); refine Lb.store_one rfl rfl 9 (.tmp 51) (.tmp 50) rfl (u := .string (right b c)) rfl rfl rfl rfl HX5.out (by kernel_rfl) (by simp) ?_; intro w6 hb6 hg6; have HX6 := Aside0.mk hb6; have HX16 := Aside0.mk (Lb.blk_grown' HX15.out hg6 HN4.out); have HB6 := Aside0.mk (Lb.grown_below HB5.out hg6 HB5.out.size HG4.out); clear d1 d2; have d0 := (blk_cell hb6 0).trans rfl; have d1 := (blk_cell hb6 1).trans rfl; have d2 := (blk_cell hb6 2).trans rfl; clear hb6 hg6)
    | ((with_reducible refine gate_store (t := 75) (p := 2) rfl ?_); refine Lb.store_whole rfl rfl 75 (.tmp 2) (.tmp 52) rfl (new := #[.string a, .string (right b c), .string c]) rfl rfl HX16.out rfl (by kernel_rfl) (by simp [Value.oneCell']) ?_; intro w7 hb7 hg7; have HX7 := Aside0.mk hb7; have HB7 := Aside0.mk (Lb.grown_below HB6.out hg7 HB6.out.size HG1.out); clear hb7 hg7; clear d0 d1 d2))
  have e0 := (blk_cell HX7.out 0).trans rfl
  have e1 := (blk_cell HX7.out 1).trans rfl
  have e2 := (blk_cell HX7.out 2).trans rfl
  refine bodyPost_ret_by (v := .tuple #[.agg #[.string a, .string (right b c), .string c], .bool true]) ?_ rfl ⟨rfl, HB7.out⟩
  rw [results_cell_tmp (p := 2) (u := 3) (ty := 75) rfl]
  go_simp
  first | done | rfl
end Go.Proofs.YthamffpieafkbaaGreatDoor.Mo

namespace Go.Proofs.YthamffpieafkbaaGreatDoor.Mo
open Go.RowKit Go.Proofs.YthamffpieafkbaaGreatDoorW.PrintWords Go.Proofs.YthamffpieafkbaaGreatDoorW.PrintLast Go.Proofs.YthamffpieafkbaaGreatDoorW.PrintMore
set_option linter.unusedVariables false
set_option linter.unusedSimpArgs false


set_option maxRecDepth 100000 in
set_option maxHeartbeats 4000000 in
theorem nfsOf_out (p : Int) (h : p < 1 ∨ 22 ≤ p) (w : World) :
    Calls Tryz.prog 27 #[.int .i64 p] w fun e w' => e = .returned (.tuple #[.agg #[.string ⟨#[]⟩, .string ⟨#[]⟩, .string ⟨#[]⟩], .bool false]) ∧ Below w.heap.size w w' := by
  have hcase : (p < 1) ∨ (¬ p < 1 ∧ 22 ≤ p) := by omega
  rcases hcase with h1 | ⟨h1, h6⟩
  all_goals
    go_enter Tryz.func27, Tryz.ntmps27
    go_wp2_with (first
      | ((with_reducible refine gate_dst (N := 2) rfl ?_); refine box_event ?hg (N := 2) ?hd (cs := #[.string ⟨#[]⟩, .string ⟨#[]⟩, .string ⟨#[]⟩]) (t := 75) ?hr ?_; (case hd => rfl); (case hg => rfl); (case hr => first | (go_simp; done) | (go_simp; rfl)); intro g1 hg1 w1 hbox1 hb1; have HB1 := Aside0.mk hb1; have HX1 := Aside0.mk hbox1; have HG1 := Aside0.mk (show w.heap.size ≤ g1 by omega); clear hbox1 hb1 hg1)
      | ((with_reducible refine gate_dst (N := 5) rfl ?_); refine box_event ?hg (N := 5) ?hd (cs := (List.replicate 66 (Value.string ⟨#[]⟩)).toArray) (t := 102) ?hr ?_; (case hd => rfl); (case hg => rfl); (case hr => first | (go_simp; done) | (go_simp; rfl)); intro g2 hg2 w2 hbox2 hb2; have HB2 := Aside0.mk hb2; have HX2 := Aside0.mk hbox2; have hlt1 := blk_lt HX1.out; have HN := Aside0.mk (show g1 ≠ g2 by omega); have HG2 := Aside0.mk (show w.heap.size ≤ g2 by have := HG1.out; omega); clear hbox2 hb2 hg2 hlt1)
      | ((with_reducible refine gate_store (t := 102) (p := 5) rfl ?_); refine Lb.store_whole rfl rfl 102 (.tmp 5) (.tmp 32) rfl (new := (cellsOf3 nTab).toArray) rfl rfl HX2.out rfl (by kernel_rfl) (cellsOf3_one nTab) ?_; intro w3 hb3 hg3; have hx1 := Lb.blk_grown' (Lb.blk_below HX1.out HB2.out) hg3 HN.out; have HX3 := Aside0.mk hx1; have HB3 := Aside0.mk (Lb.grown_below (below_step HB1.out HB2.out) hg3 (below_step HB1.out HB2.out).size HG2.out); clear hb3 hg3 hx1)
      | ((with_reducible refine gate_store (t := 75) (p := 2) rfl ?_); refine Lb.store_whole rfl rfl 75 (.tmp 2) (.tmp 39) rfl (new := #[.string ⟨#[]⟩, .string ⟨#[]⟩, .string ⟨#[]⟩]) rfl rfl HX3.out rfl (by kernel_rfl) (by simp [Value.oneCell']) ?_; intro w4 hb4 hg4; have HX4 := Aside0.mk hb4; have HB4 := Aside0.mk (Lb.grown_below HB3.out hg4 HB3.out.size HG1.out); clear hb4 hg4))
    have e0 := (blk_cell HX4.out 0).trans rfl
    have e1 := (blk_cell HX4.out 1).trans rfl
    have e2 := (blk_cell HX4.out 2).trans rfl
    refine bodyPost_ret_by (v := .tuple #[.agg #[.string ⟨#[]⟩, .string ⟨#[]⟩, .string ⟨#[]⟩], .bool false]) ?_ rfl ⟨rfl, HB4.out⟩
    rw [results_cell_tmp (p := 2) (u := 3) (ty := 75) rfl]
    go_simp
    first | done | rfl

/-- the forms ahead of their writing out -/
def rawOf (g p : Int) : ByteArray × ByteArray × ByteArray × Bool :=
  if g = 100003 ∧ 1 ≤ p ∧ p < 22 then (let x := nTab.getD p.toNat (⟨#[]⟩, ⟨#[]⟩, ⟨#[]⟩); (x.1, right x.2.1 x.2.2, x.2.2, true))
  else if g = 100005 ∧ 1 ≤ p ∧ p < 6 then (let x := mTab.getD p.toNat (⟨#[]⟩, ⟨#[]⟩, ⟨#[]⟩); (x.1, x.2.1, x.2.2, true))
  else (⟨#[]⟩, ⟨#[]⟩, ⟨#[]⟩, decide (p = 0 ∧ (g = 100003 ∨ g = 100005)))
def ofF (g p : Int) : List UInt8 × List UInt8 × Bool := (Rb.wr (rawOf g p).1.data.toList, Rb.wr (rawOf g p).2.1.data.toList, (rawOf g p).2.2.2)

theorem nfs_any (p : Int) (w : World) : Calls Tryz.prog 27 #[.int .i64 p] w fun e w' => e = .returned (.tuple #[.agg #[.string (rawOf 100003 p).1, .string (rawOf 100003 p).2.1, .string (rawOf 100003 p).2.2.1], .bool (decide (1 ≤ p ∧ p < 22))]) ∧ Below w.heap.size w w' := by
  by_cases h : 1 ≤ p ∧ p < 22
  · obtain ⟨n, rfl⟩ : ∃ n : Nat, p = n := ⟨p.toNat, by omega⟩
    have hlt : n < nTab.length := by show n < 22; omega
    have hg := List.getElem?_eq_getElem hlt
    have hb := (List.all_eq_true.1 (show (nTab.all fun x => decide (x.2.1.size ≤ 100) && decide (x.2.2.size ≤ 100)) = true by kernel_rfl)) _ (List.getElem_mem hlt)
    have hb' : nTab[n].2.1.size ≤ 100 ∧ nTab[n].2.2.size ≤ 100 := by simpa using hb
    have e : rawOf 100003 n = (nTab[n].1, right nTab[n].2.1 nTab[n].2.2, nTab[n].2.2, true) := by
      rw [rawOf, if_pos ⟨rfl, h⟩]
      simp only [Int.toNat_natCast, List.getD_eq_getElem?_getD, hg, Option.getD_some]
    rw [e, decide_eq_true h]
    exact nfsOf_in n (by omega) (by omega) _ _ _ hg hb'.1 hb'.2 w
  · have e : rawOf 100003 p = (⟨#[]⟩, ⟨#[]⟩, ⟨#[]⟩, decide (p = 0 ∧ ((100003 : Int) = 100003 ∨ (100003 : Int) = 100005))) := by
      rw [rawOf, if_neg (by omega), if_neg (by omega)]
    rw [e, decide_eq_false h]
    exact nfsOf_out p (by omega) w
theorem mount_any (p : Int) (w : World) : Calls Tryz.prog 28 #[.int .i64 p] w fun e w' => e = .returned (.tuple #[.agg #[.string (rawOf 100005 p).1, .string (rawOf 100005 p).2.1, .string (rawOf 100005 p).2.2.1], .bool (decide (1 ≤ p ∧ p < 6))]) ∧ Below w.heap.size w w' := by
  by_cases h : 1 ≤ p ∧ p < 6
  · obtain ⟨n, rfl⟩ : ∃ n : Nat, p = n := ⟨p.toNat, by omega⟩
    have hlt : n < mTab.length := by show n < 6; omega
    have hg := List.getElem?_eq_getElem hlt
    have e : rawOf 100005 n = (mTab[n].1, mTab[n].2.1, mTab[n].2.2, true) := by
      rw [rawOf, if_neg (by omega), if_pos ⟨rfl, h⟩]
      simp only [Int.toNat_natCast, List.getD_eq_getElem?_getD, hg, Option.getD_some]
    rw [e, decide_eq_true h]
    exact mountOf_in n (by omega) (by omega) _ _ _ hg w
  · have e : rawOf 100005 p = (⟨#[]⟩, ⟨#[]⟩, ⟨#[]⟩, decide (p = 0 ∧ ((100005 : Int) = 100003 ∨ (100005 : Int) = 100005))) := by
      rw [rawOf, if_neg (by omega), if_neg (by omega)]
    rw [e, decide_eq_false h]
    exact mountOf_out p (by omega) w

/-- all of them are short -/
theorem raw_short (g p : Int) : (rawOf g p).1.size ≤ 1000 ∧ (rawOf g p).2.1.size ≤ 1000 ∧ (Rb.wr1 (rawOf g p).1.data.toList).length < 56 ∧ (Rb.wr1 (rawOf g p).2.1.data.toList).length < 56 := by
  have e0 : (⟨#[]⟩ : ByteArray).size ≤ 1000 ∧ (⟨#[]⟩ : ByteArray).size ≤ 1000 ∧ (Rb.wr1 (⟨#[]⟩ : ByteArray).data.toList).length < 56 ∧ (Rb.wr1 (⟨#[]⟩ : ByteArray).data.toList).length < 56 := by decide
  unfold rawOf
  split
  · rename_i h
    have hb := (List.all_eq_true.1 (show ((List.range 22).all fun n => decide ((nTab.getD n (⟨#[]⟩, ⟨#[]⟩, ⟨#[]⟩)).1.size ≤ 1000 ∧ (right (nTab.getD n (⟨#[]⟩, ⟨#[]⟩, ⟨#[]⟩)).2.1 (nTab.getD n (⟨#[]⟩, ⟨#[]⟩, ⟨#[]⟩)).2.2).size ≤ 1000 ∧ (Rb.wr1 (nTab.getD n (⟨#[]⟩, ⟨#[]⟩, ⟨#[]⟩)).1.data.toList).length < 56 ∧ (Rb.wr1 (right (nTab.getD n (⟨#[]⟩, ⟨#[]⟩, ⟨#[]⟩)).2.1 (nTab.getD n (⟨#[]⟩, ⟨#[]⟩, ⟨#[]⟩)).2.2).data.toList).length < 56)) = true by kernel_rfl)) p.toNat (List.mem_range.2 (by omega))
    exact of_decide_eq_true hb
  · split
    · rename_i h
      have hb := (List.all_eq_true.1 (show ((List.range 6).all fun n => decide ((mTab.getD n (⟨#[]⟩, ⟨#[]⟩, ⟨#[]⟩)).1.size ≤ 1000 ∧ (mTab.getD n (⟨#[]⟩, ⟨#[]⟩, ⟨#[]⟩)).2.1.size ≤ 1000 ∧ (Rb.wr1 (mTab.getD n (⟨#[]⟩, ⟨#[]⟩, ⟨#[]⟩)).1.data.toList).length < 56 ∧ (Rb.wr1 (mTab.getD n (⟨#[]⟩, ⟨#[]⟩, ⟨#[]⟩)).2.1.data.toList).length < 56)) = true by kernel_rfl)) p.toNat (List.mem_range.2 (by omega))
      exact of_decide_eq_true hb
    · exact e0
end Go.Proofs.YthamffpieafkbaaGreatDoor.Mo
