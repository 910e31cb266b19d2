/- FS.Node: a copy of a file of a number. -/
import Derived.Test.YtlnfadlgjcnngaaGreatQ13
namespace Go.Proofs.YtlnfadlgjcnngaaGreat.Co
open Go.RowKit Go.Maps Go.Lib Go.Proofs.YtlnfadlgjcnngaaGreat.Ap Go.Proofs.YtlnfadlgjcnngaaGreatW.PrintWords Go.Proofs.YtlnfadlgjcnngaaGreatW.PrintLast Go.Proofs.YtlnfadlgjcnngaaGreatW.PrintMore
set_option linter.unusedVariables false
set_option linter.unusedSimpArgs false

/-- what a clone may be asked of -/
def Cln (w : World) (v : Value) : Prop := v = .pointer none ∨ ∃ d s i, v = .pointer (some ⟨d, 0, none⟩) ∧ DirO w d s i
theorem Cln.step {w w' : World} {v : Value} (h : Cln w v) (hb : Below w.heap.size w w') : Cln w' v := by
  rcases h with h | ⟨d, s, i, e, h⟩
  · exact .inl h
  · exact .inr ⟨d, s, i, e, h.keep (ks := []) (Kp.of hb) (List.not_mem_nil)⟩
theorem Cln.keep6 {w w' : World} {v : Value} {g6 : Nat} {cs : Array Value} (h : Cln w v) (hg : w.grownBy w' (some g6)) (hb : w.heap[g6]? = some (.cells cs 43 (0, 0))) : Cln w' v := by
  rcases h with h | ⟨d, s, i, e, h⟩
  · exact .inl h
  · refine .inr ⟨d, s, i, e, h.keep (Kp.blk hb (by decide) hg) ?_⟩
    obtain ⟨cs', hd⟩ := h.blk
    intro hm
    obtain rfl : d = g6 := by simpa using hm
    rw [hd] at hb
    injection hb with hb
    injection hb with _ hb _
    exact absurd hb (by decide)
theorem dclone (v : Value) (w : World) (h : Cln w v) : Calls Tryz.prog 37 #[v] w fun e w' => (∃ k, e = .returned (.pointer k)) ∧ Below w.heap.size w w' := by
  rcases h with rfl | ⟨d, s, i, rfl, h⟩
  · refine (dclone_nil w).mono ?_
    rintro e w' ⟨rfl, rfl⟩
    exact ⟨⟨_, rfl⟩, Below.refl _ _⟩
  · refine (dclone_one d s i w h).mono ?_
    rintro e w' ⟨k, rfl, hb⟩
    exact ⟨⟨_, rfl⟩, hb⟩
def nd0 : Nd := ⟨0, 0, 0, 0, 0, 0, 0, 0, 0, 0, 0, 0, 0, 0, 0, 0, 0, ⟨#[]⟩, ⟨#[]⟩, 0, .pointer none⟩
theorem ndC_one (n : Nd) (k : Option Addr) (h : n.names = .pointer k) : ∀ q ∈ (ndC n).toList, q.oneCell' = true := by simp [ndC, h, Value.oneCell']
theorem fld20 (n : Nd) (v : Value) : (ndC n).setIfInBounds 20 v = ndC { n with names := v } := rfl

theorem results_cell_tmp {P : Program} {fn : Func} {p q : Tmp} {ty : TypeId} (h : fn.results = #[.cell p ty, .tmp q]) (tmps : Array Value) (w : World) (g : Nat) (t : TypeId) (cs : Array Value) (fr : Nat × Nat) (d : TypeDesc)
    (hp : tmps.getD p undef = .pointer (some ⟨g, 0, none⟩)) (hg : w.heap[g]? = some (.cells cs t fr))
    (hu : P.underlying ty = some d) (hd : (match d with | .struct _ | .array _ _ => true | _ => false) = true) (hi : (P.info? ty).map (·.size) = some cs.size) :
    (results fn tmps).run P w = .ok (.tuple #[.agg cs, tmps.getD q undef]) w := by
  have hp' : tmps[p]?.getD undef = .pointer (some ⟨g, 0, none⟩) := by simpa using hp
  simp [results, h, hp', asAddr, run_loadVar_row w g t ty cs fr d hg hu hd hi]

set_option maxRecDepth 100000 in
set_option maxHeartbeats 4000000 in
theorem node_calls (g bN bM : Nat) (last : Int) (F : Int → Option Nat) (m b : Nat) (n : Nd) (i : Int) (w : World) (h : FsAt w g bN bM last F m) (hi : InI i) (hF : F i = some b) (hn : NodeAt w b n) (hc : Cln w n.names) :
    Calls Tryz.prog 11 #[.pointer (some ⟨g, 0, none⟩), .int .i64 i] w fun e w' => (∃ k, e = .returned (.tuple #[.agg (ndC { n with names := .pointer k }), .bool true])) ∧ Below w.heap.size w w' := by
  obtain ⟨k0, hk0⟩ : ∃ k, n.names = .pointer k := by rcases hc with e | ⟨d, s, j, e, _⟩ <;> exact ⟨_, e⟩
  have HO := Aside0.mk (ndC_one n k0 hk0)
  rw [hk0] at hc
  have HK0 := Aside0.mk hk0
  clear hk0
  have H := Aside0.mk h
  have HN := Aside0.mk hn
  have HC := Aside0.mk hc
  have HB := Aside0.mk (Below.refl w.heap.size w)
  have HF := Aside0.mk hF
  have HI := Aside0.mk hi
  clear h hn hc hF hi
  go_enter Tryz.func11, Tryz.ntmps11
  go_upto_region 1 with (first
    | ((with_reducible refine gate_dst (N := 4) rfl ?_); refine box_event ?hg (N := 4) ?hd (cs := ndC nd0) (t := 43) ?hr ?_; (case hd => rfl); (case hg => rfl); (case hr => first | (go_simp; done) | (go_simp; rfl)); intro g4 hg4 w4 hx hb; replace H := Aside0.mk (H.out.step hb); replace HN := Aside0.mk (Lb.blk_below HN.out hb); replace HC := Aside0.mk (HC.out.step hb); have HB4 := Aside0.mk (below_step HB.out hb); have HX := Aside0.mk hx; have HG4 : Aside0 (w.heap.size ≤ g4) := ⟨by rw [hg4]; exact Nat.le_refl _⟩; clear hx hb hg4)
    | fail)
  obtain ⟨f0, f1, f2⟩ := H.out.cells
  have hlk := H.out.ptr HI.out b HF.out
  go_upto_region 4 with (first
    | ((with_reducible refine gate_dst (N := 26) rfl ?_); refine wpList_load_row rfl 43 (.tmp 25) rfl b rfl 43 (ndC n) (0, 0) _ HN.out Tryz.underlying43 rfl (by kernel_rfl) ?_)
    | ((with_reducible refine gate_dst (N := 6) rfl ?_); refine box_event ?hg (N := 6) ?hd (cs := ndC nd0) (t := 43) ?hr ?_; (case hd => rfl); (case hg => rfl); (case hr => first | (go_simp; done) | (go_simp; rfl)); intro g6 hg6 w6 hx hb; have HC6 := Aside0.mk (HC.out.step hb); have HB6 := Aside0.mk (below_step HB4.out hb); have HX4 := Aside0.mk (Lb.blk_below HX.out hb); have HX6 := Aside0.mk hx; have HG6 : Aside0 (w.heap.size ≤ g6) := ⟨by rw [hg6]; exact HB4.out.size⟩; have HNE : Aside0 (g4 ≠ g6) := ⟨by rw [hg6]; have := blk_lt HX.out; omega⟩; clear hx hb hg6 f0 f1 f2 hlk)
    | ((with_reducible refine gate_store (t := 43) (p := 6) rfl ?_); refine Lb.store_whole rfl rfl 43 (.tmp 6) (.tmp 26) rfl (new := ndC n) rfl rfl HX6.out rfl (by kernel_rfl) HO.out ?_; intro w7 hb7 hg7; have HC7 := Aside0.mk (HC6.out.keep6 hg7 HX6.out); have HB7 := Aside0.mk (Lb.grown_below HB6.out hg7 HB6.out.size HG6.out); have HX74 := Aside0.mk (Lb.blk_grown' HX4.out hg7 HNE.out); have HX7 := Aside0.mk hb7; clear hb7 hg7))
  have e20 : w7.cell? ⟨g6, 20, none⟩ = some (.pointer k0) := by rw [← HK0.out]; exact (blk_cell HX7.out 20).trans rfl
  go_upto_region 5 with (first
    | (go_at_call 37; refine (dclone _ _ HC7.out).mono ?_; rintro e w8 ⟨⟨k8, rfl⟩, hb⟩; have HB8 := Aside0.mk (below_step HB7.out hb); have HX84 := Aside0.mk (Lb.blk_below HX74.out hb); have HX8 := Aside0.mk (Lb.blk_below HX7.out hb); clear hb e20)
    | ((with_reducible refine gate_store (t := 41) (p := 30) rfl ?_); refine Lb.store_one rfl rfl 41 (.tmp 30) (.tmp 29) rfl (g := g6) (off := 20) (u := .pointer k8) rfl rfl rfl rfl HX8.out (by kernel_rfl) (by simp [ndC]) ?_; intro w9 hb9 hg9; rw [fld20] at hb9; have HB9 := Aside0.mk (Lb.grown_below HB8.out hg9 HB8.out.size HG6.out); have HX94 := Aside0.mk (Lb.blk_grown' HX84.out hg9 HNE.out); have HX9 := Aside0.mk hb9; clear hb9 hg9))
  go_wp2_with (first
    | ((with_reducible refine gate_dst (N := 31) rfl ?_); refine wpList_load_row rfl 43 (.tmp 6) rfl g6 rfl 43 (ndC { n with names := .pointer k8 }) (0, 0) _ HX9.out Tryz.underlying43 rfl (by kernel_rfl) ?_)
    | ((with_reducible refine gate_store (t := 43) (p := 4) rfl ?_); refine Lb.store_whole rfl rfl 43 (.tmp 4) (.tmp 31) rfl (new := ndC { n with names := .pointer k8 }) rfl rfl HX94.out rfl (by kernel_rfl) (ndC_one _ k8 rfl) ?_; intro w10 hb10 hg10; have HB10 := Aside0.mk (Lb.grown_below HB9.out hg10 HB9.out.size HG4.out); have HX10 := Aside0.mk hb10; clear hb10 hg10))
  refine bodyPost_ret (results_cell_tmp rfl _ _ g4 43 (ndC { n with names := .pointer k8 }) (0, 0) _ rfl HX10.out Tryz.underlying43 rfl (by kernel_rfl)) rfl ?_
  exact ⟨⟨k8, rfl⟩, HB10.out⟩
end Go.Proofs.YtlnfadlgjcnngaaGreat.Co
