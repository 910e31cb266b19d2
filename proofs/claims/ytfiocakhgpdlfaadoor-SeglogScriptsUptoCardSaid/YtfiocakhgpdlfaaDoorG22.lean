/- A record, read off the disk. -/
import Derived.Test.YtfiocakhgpdlfaaDoorG21
import Derived.Deep.RegionHeld3
namespace Go.Proofs.YtfiocakhgpdlfaaDoor.Sg
open Go.RowKit Go.Lib Go.Proofs.YtfiocakhgpdlfaaDoor.Ap Go.Proofs.YtfiocakhgpdlfaaDoorW.PrintWords Go.Proofs.YtfiocakhgpdlfaaDoorW.PrintLast Go.Proofs.YtfiocakhgpdlfaaDoorW.PrintMore
set_option linter.unusedVariables false
set_option linter.unusedSimpArgs false

def recV (r : Option (Part × List UInt8)) (id : Nat) : Value :=
  match r with
  | none => .tuple #[.agg #[.int .i64 0, .int .i64 0, .string ⟨#[]⟩], .int .i64 0, .int .i64 0, .int .i64 0]
  | some (p, b) => .tuple #[.agg #[.int .i64 p.seq, .int .i64 id, .string (toB b)], .int .i64 p.of, .int .i64 p.boot, .int .i64 0]
def partCells (p : Part) : Array Value := #[.int .i64 p.boot, .int .i64 p.seq, .int .i64 p.n, .int .i64 p.of, .string (toB p.body)]
def part0 : Part := ⟨0, 0, 0, 0, []⟩
theorem partV_none : partV none = .agg (partCells part0) := rfl
theorem partV_some (p : Part) : partV (some p) = .agg (partCells p) := rfl

/-- what is known while a record is read -/
structure RF (w0 w : World) (g8 g12 g13 : Nat) (F : Part) (b : List UInt8) : Prop where
  x8 : w.heap[g8]? = some (.cells #[.int .i64 0, .int .i64 0, .string ⟨#[]⟩] 34 (0, 0))
  x12 : w.heap[g12]? = some (.cells (partCells F) 134 (0, 0))
  bld : Bld g13 g13 b w
  bel : Below w0.heap.size w0 w
  ge : w0.heap.size ≤ g8
  l1 : g8 < g12
  l2 : g12 < g13
  le : g13 ≤ w.heap.size
theorem RF.step {w0 w w' : World} {g8 g12 g13 : Nat} {F : Part} {b : List UInt8} (h : RF w0 w g8 g12 g13 F b) (hb : Below w.heap.size w w') : RF w0 w' g8 g12 g13 F b :=
  ⟨Lb.blk_below h.x8 hb, Lb.blk_below h.x12 hb, h.bld.step hb, below_step h.bel hb, h.ge, h.l1, h.l2, Nat.le_trans h.le hb.size⟩
theorem RF.write {w0 w w' : World} {g8 g12 g13 : Nat} {F : Part} {b b' : List UInt8} (h : RF w0 w g8 g12 g13 F b) (hb : Bld g13 g13 b' w') (hbel : Below g13 w w') : RF w0 w' g8 g12 g13 F b' :=
  ⟨(hbel.block g8 (Nat.lt_trans h.l1 h.l2)).trans h.x8, (hbel.block g12 h.l2).trans h.x12, hb, h.bel.trans (hbel.mono (by have := h.ge; have := h.l1; have := h.l2; omega)), h.ge, h.l1, h.l2, Nat.le_trans h.le hbel.size⟩
theorem RF.first {w0 w w' : World} {g8 g12 g13 : Nat} {F F' : Part} {b : List UInt8} (h : RF w0 w g8 g12 g13 F b) (hb : w'.heap[g12]? = some (.cells (partCells F') 134 (0, 0))) (hg : w.grownBy w' (some g12)) : RF w0 w' g8 g12 g13 F' b :=
  ⟨Lb.blk_grown' h.x8 hg (by have := h.l1; omega), hb, h.bld.other h.x12 hg (by decide) (by decide), Lb.grown_below h.bel hg h.bel.size (by have := h.ge; have := h.l1; omega), h.ge, h.l1, h.l2, Nat.le_trans h.le hg.size⟩
theorem RF.cells {w0 w : World} {g8 g12 g13 : Nat} {F : Part} {b : List UInt8} (h : RF w0 w g8 g12 g13 F b) :
    w.cell? ⟨g12, 0, none⟩ = some (.int .i64 F.boot) ∧ w.cell? ⟨g12, 1, none⟩ = some (.int .i64 F.seq) ∧ w.cell? ⟨g12, 2, none⟩ = some (.int .i64 F.n) ∧ w.cell? ⟨g12, 3, none⟩ = some (.int .i64 F.of) :=
  ⟨(blk_cell h.x12 0).trans rfl, (blk_cell h.x12 1).trans rfl, (blk_cell h.x12 2).trans rfl, (blk_cell h.x12 3).trans rfl⟩

/-- the same, the builder's text taken -/
structure RT (w0 w : World) (g8 g12 g13 : Nat) (F : Part) : Prop where
  x8 : w.heap[g8]? = some (.cells #[.int .i64 0, .int .i64 0, .string ⟨#[]⟩] 34 (0, 0))
  x12 : w.heap[g12]? = some (.cells (partCells F) 134 (0, 0))
  bel : Below w0.heap.size w0 w
  ge : w0.heap.size ≤ g8
  l1 : g8 < g12
theorem RF.text {w0 w w' : World} {g8 g12 g13 : Nat} {F : Part} {b : List UInt8} (h : RF w0 w g8 g12 g13 F b) (hbel : Below g13 w w') : RT w0 w' g8 g12 g13 F :=
  ⟨(hbel.block g8 (Nat.lt_trans h.l1 h.l2)).trans h.x8, (hbel.block g12 h.l2).trans h.x12, h.bel.trans (hbel.mono (by have := h.ge; have := h.l1; have := h.l2; omega)), h.ge, h.l1⟩
theorem RT.cells {w0 w : World} {g8 g12 g13 : Nat} {F : Part} (h : RT w0 w g8 g12 g13 F) :
    w.cell? ⟨g12, 0, none⟩ = some (.int .i64 F.boot) ∧ w.cell? ⟨g12, 1, none⟩ = some (.int .i64 F.seq) ∧ w.cell? ⟨g12, 2, none⟩ = some (.int .i64 F.n) ∧ w.cell? ⟨g12, 3, none⟩ = some (.int .i64 F.of) :=
  ⟨(blk_cell h.x12 0).trans rfl, (blk_cell h.x12 1).trans rfl, (blk_cell h.x12 2).trans rfl, (blk_cell h.x12 3).trans rfl⟩
theorem put3 {w : World} {g : Nat} {x0 x1 x2 a b c : Value} {t : TypeId} (h : w.heap[g]? = some (.cells #[x0, x1, x2] t (0, 0))) :
    (((w.setCell ⟨g, 0, none⟩ a).setCell ⟨g, 1, none⟩ b).setCell ⟨g, 2, none⟩ c).heap[g]? = some (.cells #[a, b, c] t (0, 0)) ∧
    w.grownBy (((w.setCell ⟨g, 0, none⟩ a).setCell ⟨g, 1, none⟩ b).setCell ⟨g, 2, none⟩ c) (some g) := by
  have h0 := Lb.setCell_block w g 0 _ t a h
  have h1 := Lb.setCell_block _ g 1 _ t b h0
  have h2 := Lb.setCell_block _ g 2 _ t c h1
  exact ⟨h2, Lb.grown_trans (Lb.grown_trans (Lb.setCell_grown w g 0 _ t a h) (Lb.setCell_grown _ g 1 _ t b h0)) (Lb.setCell_grown _ g 2 _ t c h1)⟩
theorem RT.put {w0 w : World} {g8 g12 g13 : Nat} {F : Part} (h : RT w0 w g8 g12 g13 F) (a b c : Value) :
    (((w.setCell ⟨g8, 0, none⟩ a).setCell ⟨g8, 1, none⟩ b).setCell ⟨g8, 2, none⟩ c).cell? ⟨g12, 0, none⟩ = some (.int .i64 F.boot) ∧ (((w.setCell ⟨g8, 0, none⟩ a).setCell ⟨g8, 1, none⟩ b).setCell ⟨g8, 2, none⟩ c).cell? ⟨g12, 1, none⟩ = some (.int .i64 F.seq) ∧ (((w.setCell ⟨g8, 0, none⟩ a).setCell ⟨g8, 1, none⟩ b).setCell ⟨g8, 2, none⟩ c).cell? ⟨g12, 3, none⟩ = some (.int .i64 F.of) := by
  have hb := Lb.blk_grown' h.x12 (put3 (a := a) (b := b) (c := c) h.x8).2 (by have := h.l1; omega)
  exact ⟨(blk_cell hb 0).trans rfl, (blk_cell hb 1).trans rfl, (blk_cell hb 3).trans rfl⟩
theorem partOf_is (l : List UInt8) (hl : l.length = 256) (o : Option Part) (ho : partOf l = o) (w : World) :
    Calls Tryd.prog 75 #[.string (toB l)] w fun e w' => e = .returned (.tuple #[partV o, .bool o.isSome]) ∧ Below w.heap.size w w' := by subst ho; exact partOf_calls l hl w
theorem partOf_no (l : List UInt8) (hl : l.length = 256) (ho : partOf l = none) (w : World) :
    Calls Tryd.prog 75 #[.string (toB l)] w fun e w' => e = .returned (.tuple #[.agg #[.int .i64 0, .int .i64 0, .int .i64 0, .int .i64 0, .string ⟨#[]⟩], .bool false]) ∧ Below w.heap.size w w' := partOf_is l hl none ho w
theorem partOf_yes (l : List UInt8) (hl : l.length = 256) (p : Part) (ho : partOf l = some p) (w : World) :
    Calls Tryd.prog 75 #[.string (toB l)] w fun e w' => e = .returned (.tuple #[.agg #[.int .i64 p.boot, .int .i64 p.seq, .int .i64 p.n, .int .i64 p.of, .string (toB p.body)], .bool true]) ∧ Below w.heap.size w w' := partOf_is l hl (some p) ho w
theorem partOf_body {l : List UInt8} {p : Part} (h : partOf l = some p) : p.body.length ≤ 233 ∧ p.boot ≤ top ∧ p.seq ≤ top ∧ 1 ≤ p.of ∧ p.of ≤ 16 ∧ p.n < p.of := by
  obtain ⟨h1, h2, _⟩ := partOf_eq h
  obtain ⟨k1, k2, k3, k4, k5⟩ := partOf_some h
  refine ⟨?_, k1, k2, k3, k4, k5⟩
  rw [h1]
  exact Nat.le_trans (List.length_take_le _ _) h2
theorem read_seg (B g id y : Nat) (i : Int) (hi : i = ((2 + id * 16 + y : Nat) : Int)) (d : Dk) (w : World) (h : DAt B w g d) (hn : 2 + id * 16 + y < d.now.length) (hoff : d.off = false) :
    Calls Tryd.prog 34 #[.pointer (some ⟨g, 0, none⟩), .int .i64 i] w fun e w' => e = .returned (.tuple #[.string (toB (segOf d.now id y)), .int .i64 0]) ∧ Below w.heap.size w w' := by
  subst hi; exact read_calls B g _ d w h hn hoff
theorem recGo_step (sec : Nat → List UInt8) (p0 : Part) (e k x : Nat) (b : List UInt8) (f : Nat) : recGo sec p0 e (f + 1) k x b = if e ≤ x then none else
    match partOf (sec x) with
    | none => none
    | some p => if p.n = k ∧ p.boot = p0.boot ∧ p.seq = p0.seq ∧ p.of = p0.of then recGo sec p0 e f (k + 1) (x + 1) (b ++ p.body) else none := by rw [recGo]; rfl

set_option maxRecDepth 100000 in
set_option maxHeartbeats 8000000 in
theorem record_calls (B gl gd : Nat) (d : Dk) (id a e : Nat) (w : World) (hD : DAt B w gd d) (hoff : d.off = false) (hcell : w.cell? ⟨gl, 4, none⟩ = some (.pointer (some ⟨gd, 0, none⟩))) (he : e ≤ 16) (ha : a ≤ 16) (hid : 2 + id * 16 + 16 ≤ d.now.length) :
    Calls Tryd.prog 61 #[.pointer (some ⟨gl, 0, none⟩), .int .i64 id, .int .i64 a, .int .i64 e] w fun e' w' => e' = .returned (recV (recOf (segOf d.now id) a e) id) ∧ Below w.heap.size w w' := by
  have HD := Aside0.mk hD
  have HC := Aside0.mk hcell
  have hle := hD.ok.le
  have hidb : id ≤ 64 := by omega
  have HSZ := Aside0.mk hD.ok.nsz
  have HID := Aside0.mk hid
  have HOFF := Aside0.mk hoff
  have hln : ∀ y, (segOf d.now id y).length = 256 := fun y => full_length _ (by
    rw [List.getD_eq_getElem?_getD]
    cases hx : d.now[2 + id * 16 + y]? with
    | none => exact Nat.zero_le _
    | some s => exact HSZ.out s (List.mem_of_getElem? hx))
  have HLN := Aside0.mk hln
  clear hD hcell hln hid hoff
  go_enter Tryd.func61, Tryd.ntmps61
  go_wp2_with (first
    | ((with_reducible refine gate_dst (N := 8) rfl ?_); refine Lb.alloc_event ?hg (v := fun g => .pointer (some ⟨g, 0, none⟩)) (cs := #[.int .i64 0, .int .i64 0, .string ⟨#[]⟩]) (t := 34) (fr := (0, 0)) ?hr ?_; (case hg => rfl); (case hr => first | (go_simp; done) | (go_simp; rfl)); intro g8 hg8 w2 hx hb; have HX8 := Aside0.mk hx; have HB8 := Aside0.mk hb; have HG8 := Aside0.mk hg8; clear hx hb hg8)
    | ((with_reducible refine gate_dst (N := 12) rfl ?_); refine Lb.alloc_event ?hg (v := fun g => .pointer (some ⟨g, 0, none⟩)) (cs := #[.int .i64 0, .int .i64 0, .int .i64 0, .int .i64 0, .string ⟨#[]⟩]) (t := 134) (fr := (0, 0)) ?hr ?_; (case hg => rfl); (case hr => first | (go_simp; done) | (go_simp; rfl)); intro g12 hg12 w3 hx hb; have HX12 := Aside0.mk hx; have HX83 := Aside0.mk (Lb.blk_below HX8.out hb); have HB12 := Aside0.mk (below_step HB8.out hb); have HG12 := Aside0.mk hg12; clear hx hb hg12)
    | ((with_reducible refine gate_dst (N := 13) rfl ?_); refine Lb.alloc_event ?hg (v := fun g => .pointer (some ⟨g, 0, none⟩)) (cs := #[.pointer none, .slice none 0 0]) (t := 107) (fr := (0, 0)) ?hr ?_; (case hg => rfl); (case hr => first | (go_simp; done) | (go_simp; rfl)); intro g13 hg13 w4 hx hb; have HK0 : Aside0 (RF w w4 g8 g12 g13 part0 []) := ⟨⟨Lb.blk_below HX83.out hb, Lb.blk_below HX12.out hb, bld_new hx (Nat.le_refl _), below_step HB12.out hb, by have := HG8.out; omega, by have := blk_lt HX8.out; have := HG12.out; omega, by have := blk_lt HX12.out; omega, by have := blk_lt hx; omega⟩⟩; clear hx hb hg13))
  go_loopg [14] 18 (fun gk s14 wr => ∃ (k : Nat) (F : Part) (b : List UInt8), k + gk = 18 ∧ k ≤ 16 ∧ s14 = .int .i64 k ∧ Aside0 (RF w wr g8 g12 g13 F b) ∧ Aside0 (b.length ≤ 233 * k) ∧ Aside0 ((k = 0 ∧ F = part0 ∧ b = []) ∨ (1 ≤ k ∧ k ≤ F.of ∧ F.of ≤ 16 ∧ recOf (segOf d.now id) a e = (recGo (segOf d.now id) F e (F.of - k) k (a + k) b).map (fun x => (F, x)))))
  case atStart => exact ⟨0, part0, [], by omega, by omega, rfl, HK0, ⟨by simp⟩, ⟨.inl ⟨rfl, rfl, rfl⟩⟩⟩
  case round =>
    obtain ⟨k, F, b, hk, hk16, rfl, HK, HBL, HCASE⟩ := hrel
    cases gk with
    | zero => omega
    | succ gk =>
      have hcl := Lib.Below.cellOf HK.out.bel HC.out (Nat.le_refl _)
      have HR := Aside0.mk (read_calls B gd (2 + id * 16 + (a + k)) d wr (HD.out.step HK.out.bel))
      have HL := Aside0.mk (HLN.out (a + k))
      rcases HCASE.out with ⟨hk0, hF, hb0⟩ | ⟨h1, h2, h3, hrec⟩
      · subst hk0 hF hb0
        clear HCASE
        by_cases hea : e ≤ a
        · have hea' : (e : Int) ≤ (a : Int) := by omega
          have HNO : Aside0 (recOf (segOf d.now id) a e = none) := ⟨by unfold recOf; rw [if_pos hea]⟩
          go_wp2_with (first
            | ((with_reducible refine gate_store (t := 34) (p := 8) rfl ?_); refine Lb.store_whole rfl rfl 34 (.tmp 8) (.tmp 34) rfl (new := #[.int .i64 0, .int .i64 0, .string ⟨#[]⟩]) rfl rfl HK.out.x8 rfl (by kernel_rfl) (by simp [Value.oneCell']) ?_; intro w11 hb hg; have HX11 := Aside0.mk hb; have HB11 := Aside0.mk (Lb.grown_below HK.out.bel hg HK.out.bel.size HK.out.ge); clear hb hg))
          have v0 := (blk_cell HX11.out 0).trans rfl
          have v1 := (blk_cell HX11.out 1).trans rfl
          have v2 := (blk_cell HX11.out 2).trans rfl
          exact bodyPost_ret (v := .tuple #[.agg #[.int .i64 0, .int .i64 0, .string ⟨#[]⟩], .int .i64 0, .int .i64 0, .int .i64 0]) (by simp [results, Tryd.results61, go_sem, v0, v1, v2]) rfl ⟨by rw [HNO.out]; rfl, HB11.out⟩
        · have hea' : ¬ (e : Int) ≤ (a : Int) := by omega
          have hkl : a < 16 := by omega
          have HL := Aside0.mk (HLN.out a)
          cases hpo : partOf (segOf d.now id a) with
          | none =>
            have HPO := Aside0.mk hpo
            have HNO : Aside0 (recOf (segOf d.now id) a e = none) := ⟨by unfold recOf; rw [if_neg hea, hpo]⟩
            clear hpo
            go_wp2_with (first
              | (go_at_call 34; (with_reducible refine (read_seg B gd id a _ (by omega) d _ (HD.out.step HK.out.bel) (by have := HID.out; omega) HOFF.out).mono ?_); rintro e3 w5 ⟨rfl, hb⟩; replace HK := Aside0.mk (HK.out.step hb); clear hb hcl)
              | (go_at_call 75; (with_reducible refine (partOf_no _ HL.out HPO.out _).mono ?_); rintro e4 w6 ⟨rfl, hb⟩; replace HK := Aside0.mk (HK.out.step hb); clear hb)
              | ((with_reducible refine gate_dst (N := 17) rfl ?_); refine Lb.alloc_event ?hg (v := fun g => .pointer (some ⟨g, 0, none⟩)) (cs := #[.int .i64 0, .int .i64 0, .int .i64 0, .int .i64 0, .string ⟨#[]⟩]) (t := 134) (fr := (0, 0)) ?hr ?_; (case hg => rfl); (case hr => first | (go_simp; done) | (go_simp; rfl)); intro g17 hg17 w7 hx hb; have HX70 := Aside0.mk hx; have HB70 := Aside0.mk hb; have HG17 := Aside0.mk hg17; clear hx hb hg17)
              | ((with_reducible refine gate_store (t := 134) (p := 17) rfl ?_); refine Lb.store_whole rfl rfl 134 (.tmp 17) (.tmp 57) rfl (new := #[.int .i64 0, .int .i64 0, .int .i64 0, .int .i64 0, .string ⟨#[]⟩]) rfl rfl HX70.out rfl (by kernel_rfl) (by simp [Value.oneCell']) ?_; intro w8 hb hg; have HX17 := Aside0.mk hb; have HL17 := Aside0.mk (show g12 < g17 by have := HG17.out; have := HK.out.l2; have := HK.out.le; omega); replace HK := Aside0.mk (HK.out.step (Lb.grown_below HB70.out hg HB70.out.size (by have := HG17.out; omega))); have y0 := (blk_cell HX17.out 0).trans rfl; have y1 := (blk_cell HX17.out 1).trans rfl; have y2 := (blk_cell HX17.out 2).trans rfl; have y3 := (blk_cell HX17.out 3).trans rfl; have y4 := (blk_cell HX17.out 4).trans rfl; obtain ⟨c0, c1, c2, c3⟩ := HK.out.cells; clear hb hg)
              | ((with_reducible refine gate_store (t := 134) (p := 12) rfl ?_); refine Lb.store_whole rfl rfl 134 (.tmp 12) (.tmp 61) rfl (new := #[.int .i64 0, .int .i64 0, .int .i64 0, .int .i64 0, .string ⟨#[]⟩]) rfl rfl HK.out.x12 rfl (by kernel_rfl) (by simp [Value.oneCell']) ?_; intro w9 hb hg; replace HX17 := Aside0.mk (Lb.blk_grown' HX17.out hg (by have := HL17.out; omega)); replace HK : Aside0 (RF w w9 g8 g12 g13 part0 []) := ⟨HK.out.first hb hg⟩; clear y0 y1 y2 y3 y4 c0 c1 c2 c3; have y0 := (blk_cell HX17.out 0).trans rfl; have y1 := (blk_cell HX17.out 1).trans rfl; have y2 := (blk_cell HX17.out 2).trans rfl; have y3 := (blk_cell HX17.out 3).trans rfl; have y4 := (blk_cell HX17.out 4).trans rfl; obtain ⟨c0, c1, c2, c3⟩ := HK.out.cells; clear hb hg)
              | ((with_reducible refine gate_store (t := 34) (p := 8) rfl ?_); refine Lb.store_whole rfl rfl 34 (.tmp 8) (.tmp 91) rfl (new := #[.int .i64 0, .int .i64 0, .string ⟨#[]⟩]) rfl rfl HK.out.x8 rfl (by kernel_rfl) (by simp [Value.oneCell']) ?_; intro w11 hb hg; have HX11 := Aside0.mk hb; have HB11 := Aside0.mk (Lb.grown_below HK.out.bel hg HK.out.bel.size HK.out.ge); clear hb hg))
            have v0 := (blk_cell HX11.out 0).trans rfl
            have v1 := (blk_cell HX11.out 1).trans rfl
            have v2 := (blk_cell HX11.out 2).trans rfl
            exact bodyPost_ret (v := .tuple #[.agg #[.int .i64 0, .int .i64 0, .string ⟨#[]⟩], .int .i64 0, .int .i64 0, .int .i64 0]) (by simp [results, Tryd.results61, go_sem, v0, v1, v2]) rfl ⟨by rw [HNO.out]; rfl, HB11.out⟩
          | some p =>
            have HPO := Aside0.mk hpo
            have HPB := Aside0.mk (partOf_body hpo)
            by_cases hn0 : p.n = 0
            · have HREC : Aside0 (recOf (segOf d.now id) a e = (recGo (segOf d.now id) p e (p.of - 1) 1 (a + 1) ([] ++ p.body)).map (fun x => (p, x))) := ⟨by unfold recOf; rw [if_neg hea, hpo]; simp only; rw [if_pos hn0]; rfl⟩
              clear hpo
              obtain ⟨pb, ps, pn, po, pbody⟩ := p
              have hn1 : pn = 0 := hn0
              subst hn1
              have HPY : ∀ w : World, Calls Tryd.prog 75 #[.string (toB (segOf d.now id a))] w fun e w' => e = .returned (.tuple #[.agg #[.int .i64 pb, .int .i64 ps, .int .i64 0, .int .i64 po, .string (toB pbody)], .bool true]) ∧ Below w.heap.size w w' := fun w => partOf_yes _ HL.out _ HPO.out w
              go_wp2_with (first
                | (go_at_call 34; (with_reducible refine (read_seg B gd id a _ (by omega) d _ (HD.out.step HK.out.bel) (by have := HID.out; omega) HOFF.out).mono ?_); rintro e3 w5 ⟨rfl, hb⟩; replace HK := Aside0.mk (HK.out.step hb); clear hb hcl)
                | (go_at_call 75; (with_reducible refine (HPY _).mono ?_); rintro e4 w6 ⟨rfl, hb⟩; replace HK := Aside0.mk (HK.out.step hb); clear hb HPY)
                | ((with_reducible refine gate_dst (N := 17) rfl ?_); refine Lb.alloc_event ?hg (v := fun g => .pointer (some ⟨g, 0, none⟩)) (cs := #[.int .i64 0, .int .i64 0, .int .i64 0, .int .i64 0, .string ⟨#[]⟩]) (t := 134) (fr := (0, 0)) ?hr ?_; (case hg => rfl); (case hr => first | (go_simp; done) | (go_simp; rfl)); intro g17 hg17 w7 hx hb; have HX70 := Aside0.mk hx; have HB70 := Aside0.mk hb; have HG17 := Aside0.mk hg17; clear hx hb hg17)
                | ((with_reducible refine gate_store (t := 134) (p := 17) rfl ?_); refine Lb.store_whole rfl rfl 134 (.tmp 17) (.tmp 57) rfl (new := #[.int .i64 pb, .int .i64 ps, .int .i64 0, .int .i64 po, .string (toB pbody)]) rfl rfl HX70.out rfl (by kernel_rfl) (by simp [Value.oneCell']) ?_; intro w8 hb hg; have HX17 := Aside0.mk hb; have HL17 := Aside0.mk (show g12 < g17 by have := HG17.out; have := HK.out.l2; have := HK.out.le; omega); replace HK := Aside0.mk (HK.out.step (Lb.grown_below HB70.out hg HB70.out.size (by have := HG17.out; omega))); have y0 := (blk_cell HX17.out 0).trans rfl; have y1 := (blk_cell HX17.out 1).trans rfl; have y2 := (blk_cell HX17.out 2).trans rfl; have y3 := (blk_cell HX17.out 3).trans rfl; have y4 := (blk_cell HX17.out 4).trans rfl; obtain ⟨c0, c1, c2, c3⟩ := HK.out.cells; clear hb hg)
                | ((with_reducible refine gate_store (t := 134) (p := 12) rfl ?_); refine Lb.store_whole rfl rfl 134 (.tmp 12) (.tmp 61) rfl (new := #[.int .i64 pb, .int .i64 ps, .int .i64 0, .int .i64 po, .string (toB pbody)]) rfl rfl HK.out.x12 rfl (by kernel_rfl) (by simp [Value.oneCell']) ?_; intro w9 hb hg; replace HX17 := Aside0.mk (Lb.blk_grown' HX17.out hg (by have := HL17.out; omega)); replace HK : Aside0 (RF w w9 g8 g12 g13 ⟨pb, ps, 0, po, pbody⟩ []) := ⟨HK.out.first hb hg⟩; clear y0 y1 y2 y3 y4 c0 c1 c2 c3; have y0 := (blk_cell HX17.out 0).trans rfl; have y1 := (blk_cell HX17.out 1).trans rfl; have y2 := (blk_cell HX17.out 2).trans rfl; have y3 := (blk_cell HX17.out 3).trans rfl; have y4 := (blk_cell HX17.out 4).trans rfl; obtain ⟨c0, c1, c2, c3⟩ := HK.out.cells; clear hb hg)
                | (go_at_call 53; (with_reducible refine (ws_calls g13 g13 [] pbody _ HK.out.bld (by have hz := HBL.out; have hy := HPB.out.1; simp at hz hy ⊢; omega) HK.out.le).mono ?_); rintro e10 w10 ⟨rfl, hb1, hb2⟩; replace HK := Aside0.mk (HK.out.write hb1 hb2); clear hb1 hb2 y0 y1 y2 y3 y4 c0 c1 c2 c3))
              go_roundg gk
              case measure => omega
              case rel => exact ⟨0 + 1, ⟨pb, ps, 0, po, pbody⟩, [] ++ pbody, by omega, by have := HPB.out; first | omega | (simp at this; omega), by first | rfl | (congr 1; unfold wrap64; omega), HK, ⟨by have := HBL.out; have hz := HPB.out.1; rw [List.length_append]; simp at hz this ⊢; omega⟩, ⟨.inr ⟨by omega, by have := HPB.out; simp at this ⊢; omega, by have := HPB.out; simp at this ⊢; omega, HREC.out⟩⟩⟩
            · have HNO : Aside0 (recOf (segOf d.now id) a e = none) := ⟨by unfold recOf; rw [if_neg hea, hpo]; simp only; rw [if_neg hn0]⟩
              have hn0i : ¬ (p.n : Int) = 0 := by omega
              have hn0b : ((p.n : Int) == 0) = false := beq_eq_false_iff_ne.2 hn0i
              have hn0c : ((p.n : Int) != 0) = true := by rw [bne, hn0b]; rfl
              clear hpo
              go_wp2_with (first
                | (go_at_call 34; (with_reducible refine (read_seg B gd id a _ (by omega) d _ (HD.out.step HK.out.bel) (by have := HID.out; omega) HOFF.out).mono ?_); rintro e3 w5 ⟨rfl, hb⟩; replace HK := Aside0.mk (HK.out.step hb); clear hb hcl)
                | (go_at_call 75; (with_reducible refine (partOf_yes _ HL.out p HPO.out _).mono ?_); rintro e4 w6 ⟨rfl, hb⟩; replace HK := Aside0.mk (HK.out.step hb); clear hb)
                | ((with_reducible refine gate_dst (N := 17) rfl ?_); refine Lb.alloc_event ?hg (v := fun g => .pointer (some ⟨g, 0, none⟩)) (cs := #[.int .i64 0, .int .i64 0, .int .i64 0, .int .i64 0, .string ⟨#[]⟩]) (t := 134) (fr := (0, 0)) ?hr ?_; (case hg => rfl); (case hr => first | (go_simp; done) | (go_simp; rfl)); intro g17 hg17 w7 hx hb; have HX70 := Aside0.mk hx; have HB70 := Aside0.mk hb; have HG17 := Aside0.mk hg17; clear hx hb hg17)
                | ((with_reducible refine gate_store (t := 134) (p := 17) rfl ?_); refine Lb.store_whole rfl rfl 134 (.tmp 17) (.tmp 57) rfl (new := #[.int .i64 p.boot, .int .i64 p.seq, .int .i64 p.n, .int .i64 p.of, .string (toB p.body)]) rfl rfl HX70.out rfl (by kernel_rfl) (by simp [Value.oneCell']) ?_; intro w8 hb hg; have HX17 := Aside0.mk hb; have HL17 := Aside0.mk (show g12 < g17 by have := HG17.out; have := HK.out.l2; have := HK.out.le; omega); replace HK := Aside0.mk (HK.out.step (Lb.grown_below HB70.out hg HB70.out.size (by have := HG17.out; omega))); have y0 := (blk_cell HX17.out 0).trans rfl; have y1 := (blk_cell HX17.out 1).trans rfl; have y2 := (blk_cell HX17.out 2).trans rfl; have y3 := (blk_cell HX17.out 3).trans rfl; have y4 := (blk_cell HX17.out 4).trans rfl; obtain ⟨c0, c1, c2, c3⟩ := HK.out.cells; clear hb hg)
                | ((with_reducible refine gate_store (t := 134) (p := 12) rfl ?_); refine Lb.store_whole rfl rfl 134 (.tmp 12) (.tmp 61) rfl (new := #[.int .i64 p.boot, .int .i64 p.seq, .int .i64 p.n, .int .i64 p.of, .string (toB p.body)]) rfl rfl HK.out.x12 rfl (by kernel_rfl) (by simp [Value.oneCell']) ?_; intro w9 hb hg; replace HX17 := Aside0.mk (Lb.blk_grown' HX17.out hg (by have := HL17.out; omega)); replace HK : Aside0 (RF w w9 g8 g12 g13 p []) := ⟨HK.out.first hb hg⟩; clear y0 y1 y2 y3 y4 c0 c1 c2 c3; have y0 := (blk_cell HX17.out 0).trans rfl; have y1 := (blk_cell HX17.out 1).trans rfl; have y2 := (blk_cell HX17.out 2).trans rfl; have y3 := (blk_cell HX17.out 3).trans rfl; have y4 := (blk_cell HX17.out 4).trans rfl; obtain ⟨c0, c1, c2, c3⟩ := HK.out.cells; clear hb hg)
                | ((with_reducible refine gate_store (t := 34) (p := 8) rfl ?_); refine Lb.store_whole rfl rfl 34 (.tmp 8) (.tmp 91) rfl (new := #[.int .i64 0, .int .i64 0, .string ⟨#[]⟩]) rfl rfl HK.out.x8 rfl (by kernel_rfl) (by simp [Value.oneCell']) ?_; intro w11 hb hg; have HX11 := Aside0.mk hb; have HB11 := Aside0.mk (Lb.grown_below HK.out.bel hg HK.out.bel.size HK.out.ge); clear hb hg))
              have v0 := (blk_cell HX11.out 0).trans rfl
              have v1 := (blk_cell HX11.out 1).trans rfl
              have v2 := (blk_cell HX11.out 2).trans rfl
              exact bodyPost_ret (v := .tuple #[.agg #[.int .i64 0, .int .i64 0, .string ⟨#[]⟩], .int .i64 0, .int .i64 0, .int .i64 0]) (by simp [results, Tryd.results61, go_sem, v0, v1, v2]) rfl ⟨by rw [HNO.out]; rfl, HB11.out⟩
      · have HREC := Aside0.mk hrec
        clear hrec HCASE
        have hk0 : ((k : Int) == 0) = false := by rw [beq_eq_false_iff_ne]; omega
        have hk0n : ¬ k = 0 := by omega
        have hk16i : (k : Int) ≤ 16 := by omega
        obtain ⟨c0, c1, c2, c3⟩ := HK.out.cells
        by_cases hex : k = F.of
        · subst hex
          have HYES : Aside0 (recOf (segOf d.now id) a e = some (F, b)) := ⟨by rw [HREC.out, Nat.sub_self, recGo]; rfl⟩
          have hlt : ¬ (F.of : Int) < (F.of : Int) := by omega
          clear HREC
          go_wp2_with fail
          replace HK := Aside0.mk (HK.out.step (Lb.below_drew _))
          clear c0 c1 c2 c3
          obtain ⟨c0, c1, c2, c3⟩ := HK.out.cells
          have r0 := (blk_cell HK.out.x8 0).trans rfl
          have r1 := (blk_cell HK.out.x8 1).trans rfl
          have r2 := (blk_cell HK.out.x8 2).trans rfl
          have f0 := blk_free HK.out.x8 0
          have f1 := blk_free HK.out.x8 1
          have f2 := blk_free HK.out.x8 2
          go_region_held3 (fun w' => w'.cell? ⟨g12, 0, none⟩ = some (.int .i64 F.boot) ∧ w'.cell? ⟨g12, 1, none⟩ = some (.int .i64 F.seq) ∧ w'.cell? ⟨g12, 3, none⟩ = some (.int .i64 F.of))
            (first | exact ⟨HK.out.cells.1, HK.out.cells.2.1, HK.out.cells.2.2.2⟩ | exact HK.out.put _ _ _) (first
            | (go_at_call 54; (with_reducible refine (bs_calls g13 g13 b _ HK.out.bld HK.out.le).mono ?_); rintro e5 w5 ⟨rfl, hb⟩; replace HK : Aside0 (RT w w5 g8 g12 g13 F) := ⟨HK.out.text hb⟩; have r0 := (blk_cell HK.out.x8 0).trans rfl; have r1 := (blk_cell HK.out.x8 1).trans rfl; have r2 := (blk_cell HK.out.x8 2).trans rfl; have f0 := blk_free HK.out.x8 0; have f1 := blk_free HK.out.x8 1; have f2 := blk_free HK.out.x8 2; clear hb))
          go_wp2_with fail
          have HX11 := Aside0.mk (put3 (a := .int .i64 F.seq) (b := .int .i64 id) (c := .string (toB b)) HK.out.x8).1
          have hb11 := Lb.grown_below HK.out.bel (put3 (a := .int .i64 F.seq) (b := .int .i64 id) (c := .string (toB b)) HK.out.x8).2 HK.out.bel.size HK.out.ge
          have v0 := (blk_cell HX11.out 0).trans rfl
          have v1 := (blk_cell HX11.out 1).trans rfl
          have v2 := (blk_cell HX11.out 2).trans rfl
          exact bodyPost_ret (v := .tuple #[.agg #[.int .i64 F.seq, .int .i64 id, .string (toB b)], .int .i64 F.of, .int .i64 F.boot, .int .i64 0]) (by simp [results, Tryd.results61, go_sem, v0, v1, v2]) rfl ⟨by rw [HYES.out]; rfl, hb11⟩
        · have hlt : (k : Int) < (F.of : Int) := by omega
          have hltn : k < F.of := by omega
          obtain ⟨f, hf⟩ : ∃ f, F.of - k = f + 1 := ⟨F.of - k - 1, by omega⟩
          have hf1 : F.of - (k + 1) = f := by omega
          by_cases hea : e ≤ a + k
          · have hea' : (e : Int) ≤ (a : Int) + (k : Int) := by omega
            have HNO : Aside0 (recOf (segOf d.now id) a e = none) := ⟨by rw [HREC.out, hf, recGo_step, if_pos hea]; rfl⟩
            clear hf hf1
            go_wp2_with (first
              | ((with_reducible refine gate_store (t := 34) (p := 8) rfl ?_); refine Lb.store_whole rfl rfl 34 (.tmp 8) (.tmp 34) rfl (new := #[.int .i64 0, .int .i64 0, .string ⟨#[]⟩]) rfl rfl HK.out.x8 rfl (by kernel_rfl) (by simp [Value.oneCell']) ?_; intro w11 hb hg; have HX11 := Aside0.mk hb; have HB11 := Aside0.mk (Lb.grown_below HK.out.bel hg HK.out.bel.size HK.out.ge); clear hb hg))
            have v0 := (blk_cell HX11.out 0).trans rfl
            have v1 := (blk_cell HX11.out 1).trans rfl
            have v2 := (blk_cell HX11.out 2).trans rfl
            exact bodyPost_ret (v := .tuple #[.agg #[.int .i64 0, .int .i64 0, .string ⟨#[]⟩], .int .i64 0, .int .i64 0, .int .i64 0]) (by simp [results, Tryd.results61, go_sem, v0, v1, v2]) rfl ⟨by rw [HNO.out]; rfl, HB11.out⟩
          · have hea' : ¬ (e : Int) ≤ (a : Int) + (k : Int) := by omega
            have hkl : a + k < 16 := by omega
            cases hpo : partOf (segOf d.now id (a + k)) with
            | none =>
              have HPO := Aside0.mk hpo
              have HNO : Aside0 (recOf (segOf d.now id) a e = none) := ⟨by rw [HREC.out, hf, recGo_step, if_neg hea, hpo]; rfl⟩
              clear hpo hf hf1
              go_wp2_with (first
                | (go_at_call 34; (with_reducible refine (read_seg B gd id (a + k) _ (by omega) d _ (HD.out.step HK.out.bel) (by have := HID.out; omega) HOFF.out).mono ?_); rintro e3 w5 ⟨rfl, hb⟩; replace HK := Aside0.mk (HK.out.step hb); clear hb hcl)
                | (go_at_call 75; (with_reducible refine (partOf_no _ HL.out HPO.out _).mono ?_); rintro e4 w6 ⟨rfl, hb⟩; replace HK := Aside0.mk (HK.out.step hb); clear hb)
                | ((with_reducible refine gate_dst (N := 17) rfl ?_); refine Lb.alloc_event ?hg (v := fun g => .pointer (some ⟨g, 0, none⟩)) (cs := #[.int .i64 0, .int .i64 0, .int .i64 0, .int .i64 0, .string ⟨#[]⟩]) (t := 134) (fr := (0, 0)) ?hr ?_; (case hg => rfl); (case hr => first | (go_simp; done) | (go_simp; rfl)); intro g17 hg17 w7 hx hb; have HX70 := Aside0.mk hx; have HB70 := Aside0.mk hb; have HG17 := Aside0.mk hg17; clear hx hb hg17)
                | ((with_reducible refine gate_store (t := 134) (p := 17) rfl ?_); refine Lb.store_whole rfl rfl 134 (.tmp 17) (.tmp 57) rfl (new := #[.int .i64 0, .int .i64 0, .int .i64 0, .int .i64 0, .string ⟨#[]⟩]) rfl rfl HX70.out rfl (by kernel_rfl) (by simp [Value.oneCell']) ?_; intro w8 hb hg; have HX17 := Aside0.mk hb; have HL17 := Aside0.mk (show g12 < g17 by have := HG17.out; have := HK.out.l2; have := HK.out.le; omega); replace HK := Aside0.mk (HK.out.step (Lb.grown_below HB70.out hg HB70.out.size (by have := HG17.out; omega))); have y0 := (blk_cell HX17.out 0).trans rfl; have y1 := (blk_cell HX17.out 1).trans rfl; have y2 := (blk_cell HX17.out 2).trans rfl; have y3 := (blk_cell HX17.out 3).trans rfl; have y4 := (blk_cell HX17.out 4).trans rfl; obtain ⟨c0, c1, c2, c3⟩ := HK.out.cells; clear hb hg)
                | ((with_reducible refine gate_store (t := 34) (p := 8) rfl ?_); refine Lb.store_whole rfl rfl 34 (.tmp 8) (.tmp 91) rfl (new := #[.int .i64 0, .int .i64 0, .string ⟨#[]⟩]) rfl rfl HK.out.x8 rfl (by kernel_rfl) (by simp [Value.oneCell']) ?_; intro w11 hb hg; have HX11 := Aside0.mk hb; have HB11 := Aside0.mk (Lb.grown_below HK.out.bel hg HK.out.bel.size HK.out.ge); clear hb hg))
              have v0 := (blk_cell HX11.out 0).trans rfl
              have v1 := (blk_cell HX11.out 1).trans rfl
              have v2 := (blk_cell HX11.out 2).trans rfl
              exact bodyPost_ret (v := .tuple #[.agg #[.int .i64 0, .int .i64 0, .string ⟨#[]⟩], .int .i64 0, .int .i64 0, .int .i64 0]) (by simp [results, Tryd.results61, go_sem, v0, v1, v2]) rfl ⟨by rw [HNO.out]; rfl, HB11.out⟩
            | some p =>
              have HPO := Aside0.mk hpo
              have HPB := Aside0.mk (partOf_body hpo)
              by_cases hall : p.n = k ∧ p.boot = F.boot ∧ p.seq = F.seq ∧ p.of = F.of
              · have HREC2 : Aside0 (recOf (segOf d.now id) a e = (recGo (segOf d.now id) F e (F.of - (k + 1)) (k + 1) (a + (k + 1)) (b ++ p.body)).map (fun x => (F, x))) := ⟨by
                  rw [HREC.out, hf, recGo_step, if_neg hea, hpo]
                  simp only
                  rw [if_pos hall, hf1]
                  rfl⟩
                clear hpo hf hf1 HREC
                have HPY : ∀ w : World, Calls Tryd.prog 75 #[.string (toB (segOf d.now id (a + k)))] w fun e w' => e = .returned (.tuple #[.agg #[.int .i64 F.boot, .int .i64 F.seq, .int .i64 k, .int .i64 F.of, .string (toB p.body)], .bool true]) ∧ Below w.heap.size w w' := fun w => by
                  have h := partOf_yes _ HL.out p HPO.out w
                  obtain ⟨q1, q2, q3, q4⟩ := hall
                  rw [q1, q2, q3, q4] at h
                  exact h
                clear hall
                go_wp2_with (first
                  | (go_at_call 34; (with_reducible refine (read_seg B gd id (a + k) _ (by omega) d _ (HD.out.step HK.out.bel) (by have := HID.out; omega) HOFF.out).mono ?_); rintro e3 w5 ⟨rfl, hb⟩; replace HK := Aside0.mk (HK.out.step hb); clear hb hcl)
                  | (go_at_call 75; (with_reducible refine (HPY _).mono ?_); rintro e4 w6 ⟨rfl, hb⟩; replace HK := Aside0.mk (HK.out.step hb); clear hb HPY)
                  | ((with_reducible refine gate_dst (N := 17) rfl ?_); refine Lb.alloc_event ?hg (v := fun g => .pointer (some ⟨g, 0, none⟩)) (cs := #[.int .i64 0, .int .i64 0, .int .i64 0, .int .i64 0, .string ⟨#[]⟩]) (t := 134) (fr := (0, 0)) ?hr ?_; (case hg => rfl); (case hr => first | (go_simp; done) | (go_simp; rfl)); intro g17 hg17 w7 hx hb; have HX70 := Aside0.mk hx; have HB70 := Aside0.mk hb; have HG17 := Aside0.mk hg17; clear hx hb hg17)
                  | ((with_reducible refine gate_store (t := 134) (p := 17) rfl ?_); refine Lb.store_whole rfl rfl 134 (.tmp 17) (.tmp 57) rfl (new := #[.int .i64 F.boot, .int .i64 F.seq, .int .i64 k, .int .i64 F.of, .string (toB p.body)]) rfl rfl HX70.out rfl (by kernel_rfl) (by simp [Value.oneCell']) ?_; intro w8 hb hg; have HX17 := Aside0.mk hb; have HL17 := Aside0.mk (show g12 < g17 by have := HG17.out; have := HK.out.l2; have := HK.out.le; omega); replace HK := Aside0.mk (HK.out.step (Lb.grown_below HB70.out hg HB70.out.size (by have := HG17.out; omega))); have y0 := (blk_cell HX17.out 0).trans rfl; have y1 := (blk_cell HX17.out 1).trans rfl; have y2 := (blk_cell HX17.out 2).trans rfl; have y3 := (blk_cell HX17.out 3).trans rfl; have y4 := (blk_cell HX17.out 4).trans rfl; obtain ⟨c0, c1, c2, c3⟩ := HK.out.cells; clear hb hg)
                  | (go_at_call 53; (with_reducible refine (ws_calls g13 g13 b p.body _ HK.out.bld (by have hz := HBL.out; have hy := HPB.out.1; simp at hz hy ⊢; omega) HK.out.le).mono ?_); rintro e10 w10 ⟨rfl, hb1, hb2⟩; replace HK := Aside0.mk (HK.out.write hb1 hb2); clear hb1 hb2 y0 y1 y2 y3 y4 c0 c1 c2 c3))
                go_roundg gk
                case measure => omega
                case rel => exact ⟨k + 1, F, b ++ p.body, by omega, by have := HPB.out; first | omega | (simp at this; omega), by first | rfl | (congr 1; unfold wrap64; omega), HK, ⟨by have := HBL.out; have hz := HPB.out.1; rw [List.length_append]; simp at hz this ⊢; omega⟩, ⟨.inr ⟨by omega, by omega, h3, HREC2.out⟩⟩⟩
              · have HNO : Aside0 (recOf (segOf d.now id) a e = none) := ⟨by
                  rw [HREC.out, hf, recGo_step, if_neg hea, hpo]
                  simp only
                  rw [if_neg hall]
                  rfl⟩
                clear hpo hf hf1 HREC
                obtain ⟨pb, ps, pn, po, pbody⟩ := p
                simp only at hall
                by_cases hne : pn = k
                · subst pn
                  by_cases hne : pb = F.boot
                  · subst pb
                    by_cases hne : ps = F.seq
                    · subst ps
                      have hne : ¬ po = F.of := fun h => hall ⟨rfl, rfl, rfl, h⟩
                      have hni : ¬ (po : Int) = (F.of : Int) := by omega
                      have hb1 : ((po : Int) == (F.of : Int)) = false := beq_eq_false_iff_ne.2 hni
                      have hb2 : ((po : Int) != (F.of : Int)) = true := by rw [bne, hb1]; rfl
                      have hb3 : (po == F.of) = false := beq_eq_false_iff_ne.2 hne
                      have hb4 : (po != F.of) = true := by rw [bne, hb3]; rfl
                      have HPY : ∀ w : World, Calls Tryd.prog 75 #[.string (toB (segOf d.now id (a + k)))] w fun e w' => e = .returned (.tuple #[.agg #[.int .i64 F.boot, .int .i64 F.seq, .int .i64 k, .int .i64 po, .string (toB pbody)], .bool true]) ∧ Below w.heap.size w w' := fun w => partOf_yes _ HL.out _ HPO.out w
                      clear hall
                      go_wp2_with (first
                        | (go_at_call 34; (with_reducible refine (read_seg B gd id (a + k) _ (by omega) d _ (HD.out.step HK.out.bel) (by have := HID.out; omega) HOFF.out).mono ?_); rintro e3 w5 ⟨rfl, hb⟩; replace HK := Aside0.mk (HK.out.step hb); clear hb hcl)
                        | (go_at_call 75; (with_reducible refine (HPY _).mono ?_); rintro e4 w6 ⟨rfl, hb⟩; replace HK := Aside0.mk (HK.out.step hb); clear hb HPY)
                        | ((with_reducible refine gate_dst (N := 17) rfl ?_); refine Lb.alloc_event ?hg (v := fun g => .pointer (some ⟨g, 0, none⟩)) (cs := #[.int .i64 0, .int .i64 0, .int .i64 0, .int .i64 0, .string ⟨#[]⟩]) (t := 134) (fr := (0, 0)) ?hr ?_; (case hg => rfl); (case hr => first | (go_simp; done) | (go_simp; rfl)); intro g17 hg17 w7 hx hb; have HX70 := Aside0.mk hx; have HB70 := Aside0.mk hb; have HG17 := Aside0.mk hg17; clear hx hb hg17)
                        | ((with_reducible refine gate_store (t := 134) (p := 17) rfl ?_); refine Lb.store_whole rfl rfl 134 (.tmp 17) (.tmp 57) rfl (new := #[.int .i64 F.boot, .int .i64 F.seq, .int .i64 k, .int .i64 po, .string (toB pbody)]) rfl rfl HX70.out rfl (by kernel_rfl) (by simp [Value.oneCell']) ?_; intro w8 hb hg; have HX17 := Aside0.mk hb; have HL17 := Aside0.mk (show g12 < g17 by have := HG17.out; have := HK.out.l2; have := HK.out.le; omega); replace HK := Aside0.mk (HK.out.step (Lb.grown_below HB70.out hg HB70.out.size (by have := HG17.out; omega))); have y0 := (blk_cell HX17.out 0).trans rfl; have y1 := (blk_cell HX17.out 1).trans rfl; have y2 := (blk_cell HX17.out 2).trans rfl; have y3 := (blk_cell HX17.out 3).trans rfl; have y4 := (blk_cell HX17.out 4).trans rfl; obtain ⟨c0, c1, c2, c3⟩ := HK.out.cells; clear hb hg)
                        | ((with_reducible refine gate_store (t := 34) (p := 8) rfl ?_); refine Lb.store_whole rfl rfl 34 (.tmp 8) (.tmp 91) rfl (new := #[.int .i64 0, .int .i64 0, .string ⟨#[]⟩]) rfl rfl HK.out.x8 rfl (by kernel_rfl) (by simp [Value.oneCell']) ?_; intro w11 hb hg; have HX11 := Aside0.mk hb; have HB11 := Aside0.mk (Lb.grown_below HK.out.bel hg HK.out.bel.size HK.out.ge); clear hb hg))
                      have v0 := (blk_cell HX11.out 0).trans rfl
                      have v1 := (blk_cell HX11.out 1).trans rfl
                      have v2 := (blk_cell HX11.out 2).trans rfl
                      exact bodyPost_ret (v := .tuple #[.agg #[.int .i64 0, .int .i64 0, .string ⟨#[]⟩], .int .i64 0, .int .i64 0, .int .i64 0]) (by simp [results, Tryd.results61, go_sem, v0, v1, v2]) rfl ⟨by rw [HNO.out]; rfl, HB11.out⟩
                    · skip
                      have hni : ¬ (ps : Int) = (F.seq : Int) := by omega
                      have hb1 : ((ps : Int) == (F.seq : Int)) = false := beq_eq_false_iff_ne.2 hni
                      have hb2 : ((ps : Int) != (F.seq : Int)) = true := by rw [bne, hb1]; rfl
                      have hb3 : (ps == F.seq) = false := beq_eq_false_iff_ne.2 hne
                      have hb4 : (ps != F.seq) = true := by rw [bne, hb3]; rfl
                      have HPY : ∀ w : World, Calls Tryd.prog 75 #[.string (toB (segOf d.now id (a + k)))] w fun e w' => e = .returned (.tuple #[.agg #[.int .i64 F.boot, .int .i64 ps, .int .i64 k, .int .i64 po, .string (toB pbody)], .bool true]) ∧ Below w.heap.size w w' := fun w => partOf_yes _ HL.out _ HPO.out w
                      clear hall
                      go_wp2_with (first
                        | (go_at_call 34; (with_reducible refine (read_seg B gd id (a + k) _ (by omega) d _ (HD.out.step HK.out.bel) (by have := HID.out; omega) HOFF.out).mono ?_); rintro e3 w5 ⟨rfl, hb⟩; replace HK := Aside0.mk (HK.out.step hb); clear hb hcl)
                        | (go_at_call 75; (with_reducible refine (HPY _).mono ?_); rintro e4 w6 ⟨rfl, hb⟩; replace HK := Aside0.mk (HK.out.step hb); clear hb HPY)
                        | ((with_reducible refine gate_dst (N := 17) rfl ?_); refine Lb.alloc_event ?hg (v := fun g => .pointer (some ⟨g, 0, none⟩)) (cs := #[.int .i64 0, .int .i64 0, .int .i64 0, .int .i64 0, .string ⟨#[]⟩]) (t := 134) (fr := (0, 0)) ?hr ?_; (case hg => rfl); (case hr => first | (go_simp; done) | (go_simp; rfl)); intro g17 hg17 w7 hx hb; have HX70 := Aside0.mk hx; have HB70 := Aside0.mk hb; have HG17 := Aside0.mk hg17; clear hx hb hg17)
                        | ((with_reducible refine gate_store (t := 134) (p := 17) rfl ?_); refine Lb.store_whole rfl rfl 134 (.tmp 17) (.tmp 57) rfl (new := #[.int .i64 F.boot, .int .i64 ps, .int .i64 k, .int .i64 po, .string (toB pbody)]) rfl rfl HX70.out rfl (by kernel_rfl) (by simp [Value.oneCell']) ?_; intro w8 hb hg; have HX17 := Aside0.mk hb; have HL17 := Aside0.mk (show g12 < g17 by have := HG17.out; have := HK.out.l2; have := HK.out.le; omega); replace HK := Aside0.mk (HK.out.step (Lb.grown_below HB70.out hg HB70.out.size (by have := HG17.out; omega))); have y0 := (blk_cell HX17.out 0).trans rfl; have y1 := (blk_cell HX17.out 1).trans rfl; have y2 := (blk_cell HX17.out 2).trans rfl; have y3 := (blk_cell HX17.out 3).trans rfl; have y4 := (blk_cell HX17.out 4).trans rfl; obtain ⟨c0, c1, c2, c3⟩ := HK.out.cells; clear hb hg)
                        | ((with_reducible refine gate_store (t := 34) (p := 8) rfl ?_); refine Lb.store_whole rfl rfl 34 (.tmp 8) (.tmp 91) rfl (new := #[.int .i64 0, .int .i64 0, .string ⟨#[]⟩]) rfl rfl HK.out.x8 rfl (by kernel_rfl) (by simp [Value.oneCell']) ?_; intro w11 hb hg; have HX11 := Aside0.mk hb; have HB11 := Aside0.mk (Lb.grown_below HK.out.bel hg HK.out.bel.size HK.out.ge); clear hb hg))
                      have v0 := (blk_cell HX11.out 0).trans rfl
                      have v1 := (blk_cell HX11.out 1).trans rfl
                      have v2 := (blk_cell HX11.out 2).trans rfl
                      exact bodyPost_ret (v := .tuple #[.agg #[.int .i64 0, .int .i64 0, .string ⟨#[]⟩], .int .i64 0, .int .i64 0, .int .i64 0]) (by simp [results, Tryd.results61, go_sem, v0, v1, v2]) rfl ⟨by rw [HNO.out]; rfl, HB11.out⟩
                  · skip
                    have hni : ¬ (pb : Int) = (F.boot : Int) := by omega
                    have hb1 : ((pb : Int) == (F.boot : Int)) = false := beq_eq_false_iff_ne.2 hni
                    have hb2 : ((pb : Int) != (F.boot : Int)) = true := by rw [bne, hb1]; rfl
                    have hb3 : (pb == F.boot) = false := beq_eq_false_iff_ne.2 hne
                    have hb4 : (pb != F.boot) = true := by rw [bne, hb3]; rfl
                    have HPY : ∀ w : World, Calls Tryd.prog 75 #[.string (toB (segOf d.now id (a + k)))] w fun e w' => e = .returned (.tuple #[.agg #[.int .i64 pb, .int .i64 ps, .int .i64 k, .int .i64 po, .string (toB pbody)], .bool true]) ∧ Below w.heap.size w w' := fun w => partOf_yes _ HL.out _ HPO.out w
                    clear hall
                    go_wp2_with (first
                      | (go_at_call 34; (with_reducible refine (read_seg B gd id (a + k) _ (by omega) d _ (HD.out.step HK.out.bel) (by have := HID.out; omega) HOFF.out).mono ?_); rintro e3 w5 ⟨rfl, hb⟩; replace HK := Aside0.mk (HK.out.step hb); clear hb hcl)
                      | (go_at_call 75; (with_reducible refine (HPY _).mono ?_); rintro e4 w6 ⟨rfl, hb⟩; replace HK := Aside0.mk (HK.out.step hb); clear hb HPY)
                      | ((with_reducible refine gate_dst (N := 17) rfl ?_); refine Lb.alloc_event ?hg (v := fun g => .pointer (some ⟨g, 0, none⟩)) (cs := #[.int .i64 0, .int .i64 0, .int .i64 0, .int .i64 0, .string ⟨#[]⟩]) (t := 134) (fr := (0, 0)) ?hr ?_; (case hg => rfl); (case hr => first | (go_simp; done) | (go_simp; rfl)); intro g17 hg17 w7 hx hb; have HX70 := Aside0.mk hx; have HB70 := Aside0.mk hb; have HG17 := Aside0.mk hg17; clear hx hb hg17)
                      | ((with_reducible refine gate_store (t := 134) (p := 17) rfl ?_); refine Lb.store_whole rfl rfl 134 (.tmp 17) (.tmp 57) rfl (new := #[.int .i64 pb, .int .i64 ps, .int .i64 k, .int .i64 po, .string (toB pbody)]) rfl rfl HX70.out rfl (by kernel_rfl) (by simp [Value.oneCell']) ?_; intro w8 hb hg; have HX17 := Aside0.mk hb; have HL17 := Aside0.mk (show g12 < g17 by have := HG17.out; have := HK.out.l2; have := HK.out.le; omega); replace HK := Aside0.mk (HK.out.step (Lb.grown_below HB70.out hg HB70.out.size (by have := HG17.out; omega))); have y0 := (blk_cell HX17.out 0).trans rfl; have y1 := (blk_cell HX17.out 1).trans rfl; have y2 := (blk_cell HX17.out 2).trans rfl; have y3 := (blk_cell HX17.out 3).trans rfl; have y4 := (blk_cell HX17.out 4).trans rfl; obtain ⟨c0, c1, c2, c3⟩ := HK.out.cells; clear hb hg)
                      | ((with_reducible refine gate_store (t := 34) (p := 8) rfl ?_); refine Lb.store_whole rfl rfl 34 (.tmp 8) (.tmp 91) rfl (new := #[.int .i64 0, .int .i64 0, .string ⟨#[]⟩]) rfl rfl HK.out.x8 rfl (by kernel_rfl) (by simp [Value.oneCell']) ?_; intro w11 hb hg; have HX11 := Aside0.mk hb; have HB11 := Aside0.mk (Lb.grown_below HK.out.bel hg HK.out.bel.size HK.out.ge); clear hb hg))
                    have v0 := (blk_cell HX11.out 0).trans rfl
                    have v1 := (blk_cell HX11.out 1).trans rfl
                    have v2 := (blk_cell HX11.out 2).trans rfl
                    exact bodyPost_ret (v := .tuple #[.agg #[.int .i64 0, .int .i64 0, .string ⟨#[]⟩], .int .i64 0, .int .i64 0, .int .i64 0]) (by simp [results, Tryd.results61, go_sem, v0, v1, v2]) rfl ⟨by rw [HNO.out]; rfl, HB11.out⟩
                · skip
                  have hni : ¬ (pn : Int) = (k : Int) := by omega
                  have hb1 : ((pn : Int) == (k : Int)) = false := beq_eq_false_iff_ne.2 hni
                  have hb2 : ((pn : Int) != (k : Int)) = true := by rw [bne, hb1]; rfl
                  have hb3 : (pn == k) = false := beq_eq_false_iff_ne.2 hne
                  have hb4 : (pn != k) = true := by rw [bne, hb3]; rfl
                  have HPY : ∀ w : World, Calls Tryd.prog 75 #[.string (toB (segOf d.now id (a + k)))] w fun e w' => e = .returned (.tuple #[.agg #[.int .i64 pb, .int .i64 ps, .int .i64 pn, .int .i64 po, .string (toB pbody)], .bool true]) ∧ Below w.heap.size w w' := fun w => partOf_yes _ HL.out _ HPO.out w
                  clear hall
                  go_wp2_with (first
                    | (go_at_call 34; (with_reducible refine (read_seg B gd id (a + k) _ (by omega) d _ (HD.out.step HK.out.bel) (by have := HID.out; omega) HOFF.out).mono ?_); rintro e3 w5 ⟨rfl, hb⟩; replace HK := Aside0.mk (HK.out.step hb); clear hb hcl)
                    | (go_at_call 75; (with_reducible refine (HPY _).mono ?_); rintro e4 w6 ⟨rfl, hb⟩; replace HK := Aside0.mk (HK.out.step hb); clear hb HPY)
                    | ((with_reducible refine gate_dst (N := 17) rfl ?_); refine Lb.alloc_event ?hg (v := fun g => .pointer (some ⟨g, 0, none⟩)) (cs := #[.int .i64 0, .int .i64 0, .int .i64 0, .int .i64 0, .string ⟨#[]⟩]) (t := 134) (fr := (0, 0)) ?hr ?_; (case hg => rfl); (case hr => first | (go_simp; done) | (go_simp; rfl)); intro g17 hg17 w7 hx hb; have HX70 := Aside0.mk hx; have HB70 := Aside0.mk hb; have HG17 := Aside0.mk hg17; clear hx hb hg17)
                    | ((with_reducible refine gate_store (t := 134) (p := 17) rfl ?_); refine Lb.store_whole rfl rfl 134 (.tmp 17) (.tmp 57) rfl (new := #[.int .i64 pb, .int .i64 ps, .int .i64 pn, .int .i64 po, .string (toB pbody)]) rfl rfl HX70.out rfl (by kernel_rfl) (by simp [Value.oneCell']) ?_; intro w8 hb hg; have HX17 := Aside0.mk hb; have HL17 := Aside0.mk (show g12 < g17 by have := HG17.out; have := HK.out.l2; have := HK.out.le; omega); replace HK := Aside0.mk (HK.out.step (Lb.grown_below HB70.out hg HB70.out.size (by have := HG17.out; omega))); have y0 := (blk_cell HX17.out 0).trans rfl; have y1 := (blk_cell HX17.out 1).trans rfl; have y2 := (blk_cell HX17.out 2).trans rfl; have y3 := (blk_cell HX17.out 3).trans rfl; have y4 := (blk_cell HX17.out 4).trans rfl; obtain ⟨c0, c1, c2, c3⟩ := HK.out.cells; clear hb hg)
                    | ((with_reducible refine gate_store (t := 34) (p := 8) rfl ?_); refine Lb.store_whole rfl rfl 34 (.tmp 8) (.tmp 91) rfl (new := #[.int .i64 0, .int .i64 0, .string ⟨#[]⟩]) rfl rfl HK.out.x8 rfl (by kernel_rfl) (by simp [Value.oneCell']) ?_; intro w11 hb hg; have HX11 := Aside0.mk hb; have HB11 := Aside0.mk (Lb.grown_below HK.out.bel hg HK.out.bel.size HK.out.ge); clear hb hg))
                  have v0 := (blk_cell HX11.out 0).trans rfl
                  have v1 := (blk_cell HX11.out 1).trans rfl
                  have v2 := (blk_cell HX11.out 2).trans rfl
                  exact bodyPost_ret (v := .tuple #[.agg #[.int .i64 0, .int .i64 0, .string ⟨#[]⟩], .int .i64 0, .int .i64 0, .int .i64 0]) (by simp [results, Tryd.results61, go_sem, v0, v1, v2]) rfl ⟨by rw [HNO.out]; rfl, HB11.out⟩
end Go.Proofs.YtfiocakhgpdlfaaDoor.Sg
