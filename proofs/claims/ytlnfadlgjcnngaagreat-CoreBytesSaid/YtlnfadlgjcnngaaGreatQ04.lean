/- An empty directory: get, Get, Next, free; spot. -/
import Derived.Test.YtlnfadlgjcnngaaGreatQ03
namespace Go.Proofs.YtlnfadlgjcnngaaGreat.Co
open Go.RowKit Go.Maps Go.Lib Go.Proofs.YtlnfadlgjcnngaaGreat.Ap Go.Proofs.YtlnfadlgjcnngaaGreatW.PrintWords Go.Proofs.YtlnfadlgjcnngaaGreatW.PrintLast Go.Proofs.YtlnfadlgjcnngaaGreatW.PrintMore
set_option linter.unusedVariables false
set_option linter.unusedSimpArgs false

abbrev DirE (w : World) (d : Nat) : Prop := w.heap[d]? = some (.cells #[.pointer none, .int .i64 0, .pointer none, .int .i64 0, .int .i64 0] 103 (0, 0))
theorem dir_cells {w : World} {d : Nat} {v0 v1 v2 v3 v4 : Value} (h : w.heap[d]? = some (.cells #[v0, v1, v2, v3, v4] 103 (0, 0))) :
    w.cell? ⟨d, 0, none⟩ = some v0 ∧ w.cell? ⟨d, 1, none⟩ = some v1 ∧ w.cell? ⟨d, 2, none⟩ = some v2 ∧ w.cell? ⟨d, 3, none⟩ = some v3 ∧ w.cell? ⟨d, 4, none⟩ = some v4 :=
  ⟨(blk_cell h 0).trans rfl, (blk_cell h 1).trans rfl, (blk_cell h 2).trans rfl, (blk_cell h 3).trans rfl, (blk_cell h 4).trans rfl⟩
abbrev entry0 : Value := .agg #[.string ⟨#[]⟩, .int .i64 0, .int .i64 0]
set_option maxRecDepth 100000 in
theorem spot_calls (g bN bM : Nat) (last : Int) (F : Int → Option Nat) (m b : Nat) (n : Nd) (now i : Int) (s : ByteArray) (w : World) (h : FsAt w g bN bM last F m) (hi : InI i) (hF : F i = some b) (hn : NodeAt w b n) (hk : n.kind = 2) (hs : Good s) :
    Calls Tryz.prog 31 #[.pointer (some ⟨g, 0, none⟩), rootC now, .int .i64 i, .string s] w fun e w' => e = .returned (.tuple #[.pointer (some ⟨b, 0, none⟩), .int .i64 0]) ∧ Below w.heap.size w w' := by
  have H := Aside0.mk h
  have HI := Aside0.mk hi
  have HF := Aside0.mk hF
  have HN := Aside0.mk hn
  have HK := Aside0.mk hk
  have HS := Aside0.mk hs
  have HB := Aside0.mk (Below.refl w.heap.size w)
  clear h hi hF hn hk hs
  go_enter Tryz.func31, Tryz.ntmps31
  go_wp2_with (first
    | ((with_reducible refine gate_dst (N := 5) rfl ?_); refine Lb.alloc_event ?hg (v := fun g => .pointer (some ⟨g, 0, none⟩)) (cs := #[.int .i64 0, .int .i64 0, .slice none 0 0, .int .i64 now]) (t := 29) (fr := (0, 0)) ?hr ?_; (case hg => rfl); (case hr => first | (go_simp; done) | (go_simp; rfl)); intro g5 hg5 w1 hx hb; have HX := Aside0.mk hx; replace H := Aside0.mk (H.out.step hb); replace HN := Aside0.mk (Lb.blk_below HN.out hb); replace HB := Aside0.mk (below_step HB.out hb); have e0 := (blk_cell hx 0).trans rfl; have e1 := (blk_cell hx 1).trans rfl; have e2 := (blk_cell hx 2).trans rfl; have e3 := (blk_cell hx 3).trans rfl; clear hx hb hg5)
    | (go_at_call 43; (with_reducible refine (dir_calls g bN bM last F m b n now i 3 _ H.out HI.out HF.out HN.out HK.out).mono ?_); rintro e4 w4 ⟨rfl, hb⟩; replace HB := Aside0.mk (below_step HB.out hb); clear hb)
    | (go_at_call 44; (with_reducible refine (check_good s _ HS.out).mono ?_); rintro e5 w5 ⟨rfl, hb⟩; replace HB := Aside0.mk (below_step HB.out hb); clear hb))
  go_ret2
  exact ⟨rfl, HB.out⟩
set_option maxRecDepth 100000 in
theorem tget_empty (d : Nat) (s : ByteArray) (w : World) (h : DirE w d) :
    Calls Tryz.prog 79 #[.pointer (some ⟨d, 0, none⟩), .string s] w fun e w' => e = .returned (.tuple #[entry0, .bool false]) ∧ Below w.heap.size w w' := by
  have H := Aside0.mk h
  have HB := Aside0.mk (Below.refl w.heap.size w)
  clear h
  go_enter Tryz.func79, Tryz.ntmps79
  go_wp2_with (first
    | ((with_reducible refine gate_dst (N := 4) rfl ?_); refine Lb.alloc_event ?hg (v := fun g => .pointer (some ⟨g, 0, none⟩)) (cs := #[.string ⟨#[]⟩, .int .i64 0, .int .i64 0]) (t := 108) (fr := (0, 0)) ?hr ?_; (case hg => rfl); (case hr => first | (go_simp; done) | (go_simp; rfl)); intro g4 hg4 w1 hx hb; have HX := Aside0.mk hx; replace H := Aside0.mk (Lb.blk_below H.out hb); replace HB := Aside0.mk (below_step HB.out hb); have e0 := (blk_cell hx 0).trans rfl; have e1 := (blk_cell hx 1).trans rfl; have e2 := (blk_cell hx 2).trans rfl; have d0 := (dir_cells H.out).1; have HG := Aside0.mk hg4; clear hx hb hg4))
  go_loopg [6] 1 (fun gk s6 wr => s6 = .pointer none ∧ w1 = wr)
  case atStart => exact ⟨rfl, rfl⟩
  case round =>
    obtain ⟨rfl, rfl⟩ := hrel
    go_wp2_with (first
      | ((with_reducible refine gate_store (t := 108) (p := 4) rfl ?_); refine Lb.store_whole rfl rfl 108 (.tmp 4) (.tmp 44) rfl (new := #[.string ⟨#[]⟩, .int .i64 0, .int .i64 0]) rfl rfl HX.out rfl (by kernel_rfl) (by simp [Value.oneCell']) ?_; intro w2 hb hg; have HX2 := Aside0.mk hb; replace HB := Aside0.mk (Lb.grown_below HB.out hg HB.out.size (by have := HG.out; omega)); clear hb hg e0 e1 e2; have e0 := (blk_cell HX2.out 0).trans rfl; have e1 := (blk_cell HX2.out 1).trans rfl; have e2 := (blk_cell HX2.out 2).trans rfl))
    exact bodyPost_ret (v := .tuple #[entry0, .bool false]) (by simp [results, Tryz.results79, go_sem, e0, e1, e2, entry0]) rfl ⟨rfl, HB.out⟩
set_option maxRecDepth 100000 in
theorem get_empty (d : Nat) (s : ByteArray) (w : World) (h : DirE w d) :
    Calls Tryz.prog 32 #[.pointer (some ⟨d, 0, none⟩), .string s] w fun e w' => e = .returned (.tuple #[entry0, .bool false]) ∧ Below w.heap.size w w' := by
  have H := Aside0.mk h
  have HB := Aside0.mk (Below.refl w.heap.size w)
  clear h
  go_enter Tryz.func32, Tryz.ntmps32
  go_wp2_with (first
    | ((with_reducible refine gate_dst (N := 4) rfl ?_); refine Lb.alloc_event ?hg (v := fun g => .pointer (some ⟨g, 0, none⟩)) (cs := #[.string ⟨#[]⟩, .int .i64 0, .int .i64 0]) (t := 108) (fr := (0, 0)) ?hr ?_; (case hg => rfl); (case hr => first | (go_simp; done) | (go_simp; rfl)); intro g4 hg4 w1 hx hb; have HX := Aside0.mk hx; replace H := Aside0.mk (Lb.blk_below H.out hb); replace HB := Aside0.mk (below_step HB.out hb); have HG := Aside0.mk (show w.heap.size ≤ g4 by omega); clear hx hb hg4)
    | (go_at_call 79; (with_reducible refine (tget_empty d s _ H.out).mono ?_); rintro e4 w4 ⟨rfl, hb⟩; replace HB := Aside0.mk (below_step HB.out hb); replace HX := Aside0.mk (Lb.blk_below HX.out hb); clear hb)
    | ((with_reducible refine gate_store (t := 108) (p := 4) rfl ?_); refine Lb.store_whole rfl rfl 108 (.tmp 4) (.tmp 14) rfl (new := #[.string ⟨#[]⟩, .int .i64 0, .int .i64 0]) rfl rfl HX.out rfl (by kernel_rfl) (by simp [Value.oneCell']) ?_; intro w2 hb hg; have HX2 := Aside0.mk hb; replace HB := Aside0.mk (Lb.grown_below HB.out hg HB.out.size HG.out); clear hb hg; have e0 := (blk_cell HX2.out 0).trans rfl; have e1 := (blk_cell HX2.out 1).trans rfl; have e2 := (blk_cell HX2.out 2).trans rfl))
  exact bodyPost_ret (v := .tuple #[entry0, .bool false]) (by simp [results, Tryz.results32, go_sem, e0, e1, e2, entry0]) rfl ⟨rfl, HB.out⟩
set_option maxRecDepth 100000 in
theorem next_empty (d : Nat) (w : World) (h : DirE w d) :
    Calls Tryz.prog 45 #[.pointer (some ⟨d, 0, none⟩)] w fun e w' => e = .returned (.int .i64 3) ∧ w = w' := by
  obtain ⟨-, -, -, -, c4⟩ := dir_cells h
  clear h
  go_enter Tryz.func45, Tryz.ntmps45
  go_wp2
  go_ret
  exact ⟨rfl, rfl⟩
set_option maxRecDepth 100000 in
theorem free_empty (d : Nat) (s : ByteArray) (w : World) (h : DirE w d) (hs : Good s) :
    Calls Tryz.prog 123 #[.pointer (some ⟨d, 0, none⟩), .string s] w fun e w' => e = .returned (.bool true) ∧ Below w.heap.size w w' := by
  have H := Aside0.mk h
  have HS := Aside0.mk hs
  have HB := Aside0.mk (Below.refl w.heap.size w)
  clear h hs
  go_enter Tryz.func123, Tryz.ntmps123
  go_wp2_with (first
    | (go_at_call 44; (with_reducible refine (check_good s _ HS.out).mono ?_); rintro e5 w5 ⟨rfl, hb⟩; replace HB := Aside0.mk (below_step HB.out hb); replace H := Aside0.mk (Lb.blk_below H.out hb); clear hb)
    | (go_at_call 79; (with_reducible refine (tget_empty d s _ H.out).mono ?_); rintro e4 w4 ⟨rfl, hb⟩; replace HB := Aside0.mk (below_step HB.out hb); clear hb)
    | ((with_reducible refine gate_dst (N := 5) rfl ?_); refine Lb.alloc_event ?hg (v := fun g => .pointer (some ⟨g, 0, none⟩)) (cs := #[.string ⟨#[]⟩, .int .i64 0, .int .i64 0]) (t := 108) (fr := (0, 0)) ?hr ?_; (case hg => rfl); (case hr => first | (go_simp; done) | (go_simp; rfl)); intro g4 hg4 w1 hx hb; have HX := Aside0.mk hx; replace HB := Aside0.mk (below_step HB.out hb); have HG := Aside0.mk (show w.heap.size ≤ g4 by have := HB.out.size; omega); clear hx hb hg4)
    | ((with_reducible refine gate_store (t := 108) (p := 5) rfl ?_); refine Lb.store_whole rfl rfl 108 (.tmp 5) (.tmp 20) rfl (new := #[.string ⟨#[]⟩, .int .i64 0, .int .i64 0]) rfl rfl HX.out rfl (by kernel_rfl) (by simp [Value.oneCell']) ?_; intro w2 hb hg; replace HB := Aside0.mk (Lb.grown_below HB.out hg HB.out.size HG.out); clear hb hg))
  go_ret
  exact ⟨rfl, below_step HB.out (below_alloc (Below.refl _ _) _)⟩
end Go.Proofs.YtlnfadlgjcnngaaGreat.Co
