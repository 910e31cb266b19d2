/- New: a file system with a root. -/
import Derived.Test.YtlnfadlgjcnngaaGreatQ17
namespace Go.Proofs.YtlnfadlgjcnngaaGreat.Co
open Go.RowKit Go.Maps Go.Lib Go.Proofs.YtlnfadlgjcnngaaGreat.Ap Go.Proofs.YtlnfadlgjcnngaaGreatW.PrintWords Go.Proofs.YtlnfadlgjcnngaaGreatW.PrintLast Go.Proofs.YtlnfadlgjcnngaaGreatW.PrintMore
set_option linter.unusedVariables false
set_option linter.unusedSimpArgs false

/-- the root, new -/
def nd1 (now : Int) (d : Nat) : Nd := { nd0 with kind := 2, mode := 511, links := 2, fsid := 1, id := 1, ta := now, tm := now, tc := now, parent := 1, names := .pointer (some ⟨d, 0, none⟩) }
theorem new_fs {w w1 : World} {g : Nat} (hx : w1.heap[g]? = some (.cells #[.map (some w.heap.size), .int .i64 1, .map (some (w.heap.size + 1))] 94 (0, 0))) (hb : Below ((w.alloc (.map #[] 0)).alloc (.map #[] 0)).heap.size ((w.alloc (.map #[] 0)).alloc (.map #[] 0)) w1) :
    FsAt w1 g w.heap.size (w.heap.size + 1) 1 (fun _ => none) 0 := by
  have h1 := World.ownsMap_made w Tryz.prog 3 ptrR
  have h2 := World.ownsMap_made (w.alloc (.map #[] 0)) Tryz.prog 83 anyR
  rw [World.size_alloc] at h2
  have s1 : w.heap.size < (w.alloc (.map #[] 0)).heap.size := by simp
  have h1' := ownsMap_kp (ks := []) h1 (Kp.of (below_alloc (Below.refl _ _) (.map #[] 0))) (List.not_mem_nil)
  have k := Kp.of (ks := []) hb
  exact ⟨hx, ⟨.map [], ownsMap_kp h1' k (List.not_mem_nil), fun i hi => rfl⟩, ⟨.map [], ownsMap_kp h2 k (List.not_mem_nil)⟩, by omega⟩

set_option maxRecDepth 100000 in
set_option maxHeartbeats 4000000 in
theorem new_calls (now : Int) (w : World) : Calls Tryz.prog 9 #[.int .i64 now] w fun e w' => ∃ g bN bM b d, e = .returned (.pointer (some ⟨g, 0, none⟩)) ∧ FsAt w' g bN bM 1 (putF (fun _ => none) 1 b) 2 ∧ NodeAt w' b (nd1 now d) ∧ DirE w' d ∧ (w.heap.size ≤ g ∧ w.heap.size ≤ bN ∧ w.heap.size ≤ bM ∧ w.heap.size ≤ b ∧ w.heap.size ≤ d) ∧ Below w.heap.size w w' := by
  have hmm := @run_makeMap Tryz.prog
  go_enter Tryz.func9, Tryz.ntmps9
  go_upto_region 3 with (first
    | ((with_reducible refine gate_dst (N := 8) rfl ?_); refine Lb.alloc_event ?hg (v := fun g => .pointer (some ⟨g, 0, none⟩)) (cs := #[.map (some w.heap.size), .int .i64 1, .map (some (w.heap.size + 1))]) (t := 94) (fr := (0, 0)) ?hr ?_; (case hg => rfl); (case hr => first | (go_simp; done) | (go_simp; rfl)); intro g hg w1 hx hb; have H := Aside0.mk (new_fs hx hb); have HB := Aside0.mk ((below_alloc (below_alloc (Below.refl w.heap.size w) (.map #[] 0)) (.map #[] 0)).trans (hb.mono (by simp; omega))); have HG : Aside0 (w.heap.size ≤ g) := ⟨by rw [hg]; simp; omega⟩; clear hx hb hg hmm)
    | ((with_reducible refine gate_dst (N := 4) rfl ?_); refine box_event ?hg (N := 4) ?hd (cs := #[.int .i64 0, .int .i64 0]) (t := 34) ?hr ?_; (case hd => rfl); (case hg => rfl); (case hr => first | (go_simp; done) | (go_simp; rfl)); intro g4 hg4 w2 hx hb; have HE := Aside0.mk hx; have HBE := Aside0.mk hb; have HGE := Aside0.mk hg4; clear hx hb hg4)
    | ((with_reducible refine gate_store (t := 34) (p := 4) rfl ?_); refine Lb.store_whole rfl rfl 34 (.tmp 4) (.tmp 10) rfl (new := #[.int .i64 now, .int .i64 0]) rfl rfl HE.out rfl (by kernel_rfl) (by simp [Value.oneCell']) ?_; intro w3 hb3 hg3; have hbb := Lb.grown_below HBE.out hg3 HBE.out.size (by have := HGE.out; omega); replace H := Aside0.mk (H.out.step hbb); replace HB := Aside0.mk (below_step HB.out hbb); have HT := Aside0.mk hb3; clear hb3 hg3 HE HBE HGE hbb))
  obtain ⟨f0, -, -⟩ := H.out.cells
  have t0 : w3.cell? ⟨g4, 0, none⟩ = some (.int .i64 now) := (blk_cell HT.out 0).trans rfl
  have t1 : w3.cell? ⟨g4, 1, none⟩ = some (.int .i64 0) := (blk_cell HT.out 1).trans rfl
  have lg := blk_lt H.out.blk
  have l4 := blk_lt HT.out
  have f0a : ∀ o : Obj, (w3.alloc o).cell? ⟨g, 0, none⟩ = some (.map (some w.heap.size)) := fun o => (World.cell?_alloc_lt w3 o ⟨g, 0, none⟩ lg).trans f0
  have t0a : ∀ o : Obj, (w3.alloc o).cell? ⟨g4, 0, none⟩ = some (.int .i64 now) := fun o => (World.cell?_alloc_lt w3 o ⟨g4, 0, none⟩ l4).trans t0
  have t1a : ∀ o : Obj, (w3.alloc o).cell? ⟨g4, 1, none⟩ = some (.int .i64 0) := fun o => (World.cell?_alloc_lt w3 o ⟨g4, 1, none⟩ l4).trans t1
  have f0b : ∀ o o' : Obj, ((w3.alloc o).alloc o').cell? ⟨g, 0, none⟩ = some (.map (some w.heap.size)) := fun o o' => (World.cell?_alloc_lt _ o' ⟨g, 0, none⟩ (by simp; omega)).trans (f0a o)
  have t0b : ∀ o o' : Obj, ((w3.alloc o).alloc o').cell? ⟨g4, 0, none⟩ = some (.int .i64 now) := fun o o' => (World.cell?_alloc_lt _ o' ⟨g4, 0, none⟩ (by simp; omega)).trans (t0a o)
  have t1b : ∀ o o' : Obj, ((w3.alloc o).alloc o').cell? ⟨g4, 1, none⟩ = some (.int .i64 0) := fun o o' => (World.cell?_alloc_lt _ o' ⟨g4, 1, none⟩ (by simp; omega)).trans (t1a o)
  clear lg l4
  obtain ⟨D0, hD0, hF0⟩ := H.out.nodes
  have hD2 : ((w3.alloc (.cells #[.pointer none, .int .i64 0, .pointer none, .int .i64 0, .int .i64 0] 103)).alloc (.cells (ndC (nd1 now w3.heap.size)) 43)).drew.ownsMap Tryz.prog 3 ptrR w.heap.size 0 D0 :=
    ownsMap_kp (ks := []) hD0 (Kp.of (below_step (below_alloc (below_alloc (Below.refl _ _) _) _) (Lb.below_drew _))) (List.not_mem_nil)
  obtain ⟨W3, hmu, ho, hgr⟩ := hD2.update int_law Tryz.underlying91 (by decide) (key := .int .i64 1) (int_key ⟨by decide, by decide⟩) (show ptrR (.pointer (some ⟨w3.heap.size + 1, 0, none⟩)) = some (.lit (.int .i64 ((w3.heap.size + 1 : Nat) : Int)), []) from rfl)
  have hbw : Below w3.heap.size w3 ((w3.alloc (.cells #[.pointer none, .int .i64 0, .pointer none, .int .i64 0, .int .i64 0] 103)).alloc (.cells (ndC (nd1 now w3.heap.size)) 43)).drew := below_step (below_alloc (below_alloc (Below.refl _ _) _) _) (Lb.below_drew _)
  have hfs := (H.out.step hbw).put hD2 hF0 ho hgr
  have hdd : ((w3.alloc (.cells #[.pointer none, .int .i64 0, .pointer none, .int .i64 0, .int .i64 0] 103)).alloc (.cells (ndC (nd1 now w3.heap.size)) 43)).drew.heap[w3.heap.size]? = some (.cells #[.pointer none, .int .i64 0, .pointer none, .int .i64 0, .int .i64 0] 103 (0, 0)) := (Below.heap_alloc _ _ _ (by simp)).trans (blk_new w3 _)
  have hdn : ((w3.alloc (.cells #[.pointer none, .int .i64 0, .pointer none, .int .i64 0, .int .i64 0] 103)).alloc (.cells (ndC (nd1 now w3.heap.size)) 43)).drew.heap[w3.heap.size + 1]? = some (.cells (ndC (nd1 now w3.heap.size)) 43 (0, 0)) := by
    have h := blk_new (w3.alloc (.cells #[.pointer none, .int .i64 0, .pointer none, .int .i64 0, .int .i64 0] 103)) (.cells (ndC (nd1 now w3.heap.size)) 43)
    rw [World.size_alloc] at h
    exact h
  have n1 := (H.out.step hbw).neN hdd
  have n2 := (H.out.step hbw).neN hdn
  have HF := Aside0.mk hfs.1
  have HDD : Aside0 (DirE W3 w3.heap.size) := ⟨Lb.blk_grown' hdd hgr (fun e => n1.1 e.symm)⟩
  have HDN : Aside0 (NodeAt W3 (w3.heap.size + 1) (nd1 now w3.heap.size)) := ⟨Lb.blk_grown' hdn hgr (fun e => n2.1 e.symm)⟩
  have HB3 : Aside0 (Below w.heap.size w W3) := ⟨Lb.grown_below (below_step HB.out hbw) hgr (below_step HB.out hbw).size (Nat.le_refl _)⟩
  have HSZ : Aside0 (w.heap.size ≤ w3.heap.size) := ⟨HB.out.size⟩
  have HO := Aside0.mk (And.intro ho hgr)
  clear ho hgr hD0 hF0 hD2 hbw hfs hdd hdn n1 n2
  unfold nd1 ndC nd0 at hmu
  simp only at hmu
  have hne := H.out.neN H.out.blk
  have hne4 := H.out.neN HT.out
  have hW : W3.cell? ⟨g, 0, none⟩ = some (.map (some w.heap.size)) ∧ W3.cell? ⟨g4, 0, none⟩ = some (.int .i64 now) ∧ W3.cell? ⟨g4, 1, none⟩ = some (.int .i64 0) := by
    have k1 := Lb.blk_grown' (Lb.blk_below H.out.blk (below_step (below_alloc (below_alloc (Below.refl _ _) _) _) (Lb.below_drew _))) HO.out.2 (fun e => hne.1 e.symm)
    have k2 := Lb.blk_grown' (Lb.blk_below HT.out (below_step (below_alloc (below_alloc (Below.refl _ _) _) _) (Lb.below_drew _))) HO.out.2 (fun e => hne4.1 e.symm)
    exact ⟨(blk_cell k1 0).trans rfl, (blk_cell k2 0).trans rfl, (blk_cell k2 1).trans rfl⟩
  have HW := Lib.hid hW
  have T0 := Lib.hid (And.intro f0 (And.intro t0 t1))
  have T1 := Lib.hid (fun o => And.intro (f0a o) (And.intro (t0a o) (t1a o)))
  have T2 := Lib.hid (fun o o' => And.intro (f0b o o') (And.intro (t0b o o') (t1b o o')))
  clear hW f0a t0a t1a f0b t0b t1b hne hne4
  go_region_held3 (fun w' => w'.cell? ⟨g, 0, none⟩ = some (.map (some w.heap.size)) ∧ w'.cell? ⟨g4, 0, none⟩ = some (.int .i64 now) ∧ w'.cell? ⟨g4, 1, none⟩ = some (.int .i64 0)) (first | exact T0.out | exact HW.out | exact T1.out _ | exact T2.out _ _) (fail)
  clear hmu f0 t0 t1 HO HW T0 T1 T2 H HT HB
  go_wp2_with (go_at_call 30; (with_reducible refine (touch_calls g w.heap.size (w.heap.size + 1) 1 _ 1 1 ⟨#[]⟩ _ HF.out (by decide) ⟨by decide, by decide⟩ (Nat.zero_le _)).mono ?_); rintro e5 w5 ⟨rfl, hf, hk⟩; have hn : ∀ (k : Nat) (cs : Array Value) (t : TypeId) (f : Nat × Nat), W3.heap[k]? = some (.cells cs t f) → k ∉ [w.heap.size + 1] := fun k cs t f hk' => (by simpa using fun e : k = w.heap.size + 1 => (HF.out.neN hk').2 e.symm); have HF5 := Aside0.mk hf; have HDD5 := Aside0.mk (show DirE w5 _ from hk.keep _ _ HDD.out (hn _ _ _ _ HDD.out)); have HDN5 := Aside0.mk (hk.keep _ _ HDN.out (hn _ _ _ _ HDN.out)); have HB5 := Aside0.mk (HB3.out.trans (hk.below (B := w.heap.size) (by simp) HB3.out.size)); clear hf hk hn)
  go_ret
  exact ⟨g, w.heap.size, w.heap.size + 1, w3.heap.size + 1, w3.heap.size, rfl, HF5.out, HDN5.out, HDD5.out, ⟨HG.out, Nat.le_refl _, Nat.le_succ _, by have := HSZ.out; omega, HSZ.out⟩, HB5.out⟩
end Go.Proofs.YtlnfadlgjcnngaaGreat.Co
