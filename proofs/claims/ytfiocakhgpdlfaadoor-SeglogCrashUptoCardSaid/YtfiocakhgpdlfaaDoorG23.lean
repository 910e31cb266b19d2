/- A log in memory; its last segment, its next checkpoint, saving. -/
import Derived.Test.YtfiocakhgpdlfaaDoorG22
namespace Go.Proofs.YtfiocakhgpdlfaaDoor.Sg
open Go.RowKit Go.Lib Go.Proofs.YtfiocakhgpdlfaaDoor.Ap Go.Proofs.YtfiocakhgpdlfaaDoorW.PrintWords Go.Proofs.YtfiocakhgpdlfaaDoorW.PrintLast Go.Proofs.YtfiocakhgpdlfaaDoorW.PrintMore
set_option linter.unusedVariables false
set_option linter.unusedSimpArgs false

/-- a log in memory, on a disk -/
structure LRaw (B : Nat) (w : World) (gl gd : Nat) (l : Lg) (vS : Value) : Prop where
  blk : w.heap[gl]? = some (.cells #[.int .i64 l.cp.serial, .int .i64 l.cp.boot, .int .i64 l.cp.seq, vS, .pointer (some ⟨gd, 0, none⟩), .int .i64 l.place] 83 (0, 0))
  segs : SegsAt B w vS l.cp.segs
  ge : B ≤ gl
def LAt (B : Nat) (w : World) (gl gd : Nat) (l : Lg) : Prop := ∃ vS, LRaw B w gl gd l vS
theorem LRaw.cells {B : Nat} {w : World} {gl gd : Nat} {l : Lg} {vS : Value} (h : LRaw B w gl gd l vS) :
    w.cell? ⟨gl, 0, none⟩ = some (.int .i64 l.cp.serial) ∧ w.cell? ⟨gl, 1, none⟩ = some (.int .i64 l.cp.boot) ∧ w.cell? ⟨gl, 2, none⟩ = some (.int .i64 l.cp.seq) ∧ w.cell? ⟨gl, 3, none⟩ = some vS ∧ w.cell? ⟨gl, 4, none⟩ = some (.pointer (some ⟨gd, 0, none⟩)) ∧ w.cell? ⟨gl, 5, none⟩ = some (.int .i64 l.place) :=
  ⟨(blk_cell h.blk 0).trans rfl, (blk_cell h.blk 1).trans rfl, (blk_cell h.blk 2).trans rfl, (blk_cell h.blk 3).trans rfl, (blk_cell h.blk 4).trans rfl, (blk_cell h.blk 5).trans rfl⟩
theorem LRaw.step {B : Nat} {w w' : World} {gl gd : Nat} {l : Lg} {vS : Value} (h : LRaw B w gl gd l vS) (hb : Below w.heap.size w w') : LRaw B w' gl gd l vS := ⟨Lb.blk_below h.blk hb, h.segs.step hb, h.ge⟩
theorem LRaw.frS {B : Nat} {w w' : World} {gl gd : Nat} {l : Lg} {vS : Value} (h : LRaw B w gl gd l vS) (hf : FrS B w w') : LRaw B w' gl gd l vS :=
  ⟨hf.frm _ _ _ _ h.blk (by decide) (by decide) (by decide), own_keep h.segs (fun k cs f hr => hf.frm _ _ _ _ hr (by decide) (by decide) (by decide)), h.ge⟩
/-- what a log's functions leave alone -/
structure FrL (B : Nat) (w w' : World) : Prop where
  bel : Below B w w'
  frm : ∀ (k : Nat) (cs : Array Value) (t' : TypeId) (f : Nat × Nat), w.heap[k]? = some (.cells cs t' f) → t' ≠ 75 → t' ≠ 104 → t' ≠ 9 → t' ≠ 83 → t' ≠ 71 → w'.heap[k]? = some (.cells cs t' f)
theorem FrL.refl (B : Nat) (w : World) : FrL B w w := ⟨Below.refl B w, fun _ _ _ _ h _ _ _ _ _ => h⟩
theorem FrL.trans {B : Nat} {a b c : World} (h : FrL B a b) (k : FrL B b c) : FrL B a c := ⟨h.bel.trans k.bel, fun i cs t' f h1 h2 h3 h4 h5 h6 => k.frm i cs t' f (h.frm i cs t' f h1 h2 h3 h4 h5 h6) h2 h3 h4 h5 h6⟩
theorem FrL.of {B : Nat} {w w' : World} (h : Below w.heap.size w w') (hB : B ≤ w.heap.size) : FrL B w w' := ⟨h.mono hB, fun _ _ _ _ h1 _ _ _ _ _ => Lb.blk_below h1 h⟩
theorem FrS.toL {B : Nat} {w w' : World} (h : FrS B w w') : FrL B w w' := ⟨h.bel, fun k cs t' f h1 h2 h3 h4 _ _ => h.frm k cs t' f h1 h2 h3 h4⟩
theorem FrL.blk {B : Nat} {w w' : World} {g : Nat} {cs : Array Value} {t : TypeId} {f : Nat × Nat} (hb : w.heap[g]? = some (.cells cs t f)) (h : w.grownBy w' (some g)) (hB : B ≤ g) (ht : t = 83 ∨ t = 71) : FrL B w w' := by
  have hlt := blk_lt hb
  refine ⟨Lb.grown_below (Below.refl B w) h (by omega) hB, fun k cs' t' f' hk _ _ _ h4 h5 => types_blk hb h k cs' t' f' (fun e => ?_) hk⟩
  rcases ht with ht | ht
  · exact h4 (by rw [e, ht])
  · exact h5 (by rw [e, ht])

theorem last_calls (B : Nat) (a b c : Int) (k n cap : Nat) (segs : List Seg) (w : World) (h : SegsAt B w (.slice (some ⟨k, 0, none⟩) n cap) segs) (hn : segs.length = n) (h1 : 1 ≤ n) (h2 : n ≤ 1000) :
    Calls Tryd.prog 42 #[.agg #[.int .i64 a, .int .i64 b, .int .i64 c, .slice (some ⟨k, 0, none⟩) n cap]] w fun e w' => e = .returned (.pointer (some ⟨k, (n - 1) * 2, none⟩)) ∧ Below w.heap.size w w' := by
  obtain ⟨m, rfl⟩ : ∃ m, n = m + 1 := ⟨n - 1, by omega⟩
  have h1i : (m : Int) < ((m + 1 : Nat) : Int) := by omega
  clear h
  go_enter Tryd.func42, Tryd.ntmps42
  go_wp2_with (first
    | ((with_reducible refine gate_dst (N := 1) rfl ?_); refine box_event ?hg (N := 1) ?hd (cs := #[.int .i64 a, .int .i64 b, .int .i64 c, .slice (some ⟨k, 0, none⟩) (m + 1) cap]) (t := 78) ?hr ?_; (case hd => rfl); (case hg => rfl); (case hr => first | (go_simp; done) | (go_simp; rfl)); intro g1 hg1 w1 hx hb; have HB1 := Aside0.mk hb; have c3 : w1.cell? ⟨g1, 3, none⟩ = some (.slice (some ⟨k, 0, none⟩) (m + 1) cap) := (blk_cell hx 3).trans rfl; clear hx hb hg1))
  go_ret
  exact ⟨rfl, HB1.out⟩

set_option maxRecDepth 100000 in
theorem next_calls (B gl gd : Nat) (l : Lg) (vS : Value) (A : Option Addr) (n cap : Nat) (w : World) (h : LRaw B w gl gd l vS) (hs : l.cp.serial ≤ 9000000000000000000) :
    Calls Tryd.prog 38 #[.pointer (some ⟨gl, 0, none⟩), .slice A n cap] w fun e w' => e = .returned (.agg #[.int .i64 (l.cp.serial + 1 : Nat), .int .i64 l.cp.boot, .int .i64 l.cp.seq, .slice A n cap]) ∧ Below w.heap.size w w' := by
  have H := Aside0.mk h
  clear h
  go_enter Tryd.func38, Tryd.ntmps38
  go_wp2_with (first
    | ((with_reducible refine gate_dst (N := 4) rfl ?_); refine Lb.alloc_event ?hg (v := fun g => .pointer (some ⟨g, 0, none⟩)) (cs := #[.int .i64 0, .int .i64 0, .int .i64 0, .slice none 0 0]) (t := 78) (fr := (0, 0)) ?hr ?_; (case hg => rfl); (case hr => first | (go_simp; done) | (go_simp; rfl)); intro g4 hg4 w2 hx hb; have HX := Aside0.mk hx; have HB := Aside0.mk hb; have HG := Aside0.mk hg4; have HL := Aside0.mk (H.out.step hb); clear hx hb hg4))
  obtain ⟨c0, c1, c2, -, -, -⟩ := HL.out.cells
  have hw : IntKind.i64.wrap ((l.cp.serial : Int) + 1) = (l.cp.serial : Int) + 1 := by rw [IntKind.wrap_i64]; omega
  go_still_tail 18, (by kernel_rfl)
  change wpList _ _ _ _ _ w2.drew
  have HX3 := Aside0.mk (Lb.blk_below HX.out (Lb.below_drew w2))
  have HB3 := Aside0.mk (below_step HB.out (Lb.below_drew w2))
  clear c0 c1 c2
  generalize w2.drew = w3 at HX3 HB3 ⊢
  go_wp2_with (first
    | ((with_reducible refine gate_store (t := 78) (p := 4) rfl ?_); refine Lb.store_whole rfl rfl 78 (.tmp 4) (.tmp 22) rfl (new := #[.int .i64 (l.cp.serial + 1 : Nat), .int .i64 l.cp.boot, .int .i64 l.cp.seq, .slice A n cap]) rfl rfl HX3.out rfl (by kernel_rfl) (by simp [Value.oneCell']) ?_; intro w5 hb hg; have HX5 := Aside0.mk hb; have HB5 := Aside0.mk (Lb.grown_below HB3.out hg HB3.out.size (by have := HG.out; omega)); clear hb hg))
  have v0 := (blk_cell HX5.out 0).trans rfl
  have v1 := (blk_cell HX5.out 1).trans rfl
  have v2 := (blk_cell HX5.out 2).trans rfl
  have v3 := (blk_cell HX5.out 3).trans rfl
  exact bodyPost_ret (v := .agg #[.int .i64 (l.cp.serial + 1 : Nat), .int .i64 l.cp.boot, .int .i64 l.cp.seq, .slice A n cap]) (by simp [results, Tryd.results38, go_sem, v0, v1, v2, v3]) rfl ⟨rfl, HB5.out⟩
end Go.Proofs.YtfiocakhgpdlfaaDoor.Sg
