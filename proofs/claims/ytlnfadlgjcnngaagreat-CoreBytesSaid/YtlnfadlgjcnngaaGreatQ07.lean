/- An empty directory: lay, Add: a directory of one name. -/
import Derived.Test.YtlnfadlgjcnngaaGreatQ06
import Derived.Lib.MinMax
namespace Go.Proofs.YtlnfadlgjcnngaaGreat.Co
open Go.RowKit Go.Maps Go.Lib Go.Proofs.YtlnfadlgjcnngaaGreat.Ap Go.Proofs.YtlnfadlgjcnngaaGreatW.PrintWords Go.Proofs.YtlnfadlgjcnngaaGreatW.PrintLast Go.Proofs.YtlnfadlgjcnngaaGreatW.PrintMore
set_option linter.unusedVariables false
set_option linter.unusedSimpArgs false

/-- a directory of one name -/
structure DirO (w : World) (d : Nat) (s : ByteArray) (id : Int) : Prop where
  ex : ∃ kn nK nV kc cK cV, w.heap[d]? = some (.cells #[.pointer (some ⟨kn, 0, none⟩), .int .i64 1, .pointer (some ⟨kc, 0, none⟩), .int .i64 1, .int .i64 3] 103 (0, 0)) ∧
    w.heap[kn]? = some (.cells #[nK, nV, .slice none 0 0] 219 (0, 0)) ∧ w.ownsRow 0 9 1 nK 1 [.string s] ∧ w.ownsRow 0 108 3 nV 1 [.string s, .int .i64 id, .int .i64 3] ∧
    w.heap[kc]? = some (.cells #[cK, cV, .slice none 0 0] 231 (0, 0)) ∧ w.ownsRow 0 3 1 cK 1 [.int .i64 3] ∧ w.ownsRow 0 9 1 cV 1 [.string s]
theorem DirO.keep {w w' : World} {ks : List Nat} {d : Nat} {s : ByteArray} {id : Int} (h : DirO w d s id) (hk : Kp ks w w') (hd : d ∉ ks) : DirO w' d s id := by
  obtain ⟨kn, nK, nV, kc, cK, cV, h1, h2, h3, h4, h5, h6, h7⟩ := h.ex
  exact ⟨kn, nK, nV, kc, cK, cV, hk.keep _ _ h1 hd, hk.typ _ _ _ _ h2 (by decide), hk.own h3 (by decide), hk.own h4 (by decide), hk.typ _ _ _ _ h5 (by decide), hk.own h6 (by decide), hk.own h7 (by decide)⟩
theorem DirO.blk {w : World} {d : Nat} {s : ByteArray} {id : Int} (h : DirO w d s id) : ∃ cs, w.heap[d]? = some (.cells cs 103 (0, 0)) := by
  obtain ⟨kn, nK, nV, kc, cK, cV, h1, _⟩ := h.ex
  exact ⟨_, h1⟩
set_option maxRecDepth 100000 in
set_option maxHeartbeats 4000000 in
theorem lay_empty (d : Nat) (s : ByteArray) (id : Int) (w : World) (h : DirE w d) :
    Calls Tryz.prog 124 #[.pointer (some ⟨d, 0, none⟩), .agg #[.string s, .int .i64 id, .int .i64 3]] w fun e w' => e = .returned (.tuple #[]) ∧ DirO w' d s id ∧ Kp [d] w w' := by
  have HD := Aside0.mk h
  have HKP := Aside0.mk (Kp.refl [d] w)
  clear h
  go_enter Tryz.func124, Tryz.ntmps124
  go_wp2_with (first
    | ((with_reducible refine gate_dst (N := 3) rfl ?_); refine Lb.alloc_event ?hg (v := fun g => .pointer (some ⟨g, 0, none⟩)) (cs := #[.string s, .int .i64 id, .int .i64 3]) (t := 108) (fr := (0, 0)) ?hr ?_; (case hg => rfl); (case hr => first | (go_simp; done) | (go_simp; rfl)); intro g3 hg5 w1 hx hb; have HX := Aside0.mk hx; replace HD := Aside0.mk (Lb.blk_below HD.out hb); replace HKP := Aside0.mk (HKP.out.trans (Kp.of hb)); clear hx hb hg5))
  replace HD := Aside0.mk (Lb.blk_below HD.out (Lb.below_drew _))
  replace HX := Aside0.mk (Lb.blk_below HX.out (Lb.below_drew _))
  replace HKP := Aside0.mk (HKP.out.trans (Kp.of (Lb.below_drew _)))
  have x0 : w1.drew.cell? ⟨g3, 0, none⟩ = some (.string s) := (blk_cell HX.out 0).trans rfl
  have x1 : w1.drew.cell? ⟨g3, 1, none⟩ = some (.int .i64 id) := (blk_cell HX.out 1).trans rfl
  have x2 : w1.drew.cell? ⟨g3, 2, none⟩ = some (.int .i64 3) := (blk_cell HX.out 2).trans rfl
  go_region_held3 (fun w' => w'.cell? ⟨g3, 0, none⟩ = some (.string s) ∧ w'.cell? ⟨g3, 1, none⟩ = some (.int .i64 id) ∧ w'.cell? ⟨g3, 2, none⟩ = some (.int .i64 3)) (exact ⟨(blk_cell HX.out 0).trans rfl, (blk_cell HX.out 1).trans rfl, (blk_cell HX.out 2).trans rfl⟩) (first
    | (go_at_call 150; (with_reducible refine (put_nam d s id 3 _ _ _ _ HD.out).mono ?_); rintro e4 w4 ⟨rfl, kn, nK, nV, h1, h2, h3, h4, h5⟩; replace HD := Aside0.mk h1; have HN := Aside0.mk (And.intro h2 (And.intro h3 h4)); replace HX := Aside0.mk (h5.typ _ _ _ _ HX.out (by decide)); replace HKP := Aside0.mk (HKP.out.trans h5); clear h1 h2 h3 h4 h5))
  clear x0 x1 x2
  have x0 : w4.cell? ⟨g3, 0, none⟩ = some (.string s) := (blk_cell HX.out 0).trans rfl
  have x2 : w4.cell? ⟨g3, 2, none⟩ = some (.int .i64 3) := (blk_cell HX.out 2).trans rfl
  go_wp2_with fail
  clear x0 x2
  replace HD := Aside0.mk (Lb.blk_below HD.out (Lb.below_drew _))
  replace HX := Aside0.mk (Lb.blk_below HX.out (Lb.below_drew _))
  replace HN := Aside0.mk (And.intro (Lb.blk_below HN.out.1 (Lb.below_drew _)) (And.intro (own_step HN.out.2.1 (Lb.below_drew _)) (own_step HN.out.2.2 (Lb.below_drew _))))
  replace HKP := Aside0.mk (HKP.out.trans (Kp.of (Lb.below_drew _)))
  have x0 : w4.drew.cell? ⟨g3, 0, none⟩ = some (.string s) := (blk_cell HX.out 0).trans rfl
  have x2 : w4.drew.cell? ⟨g3, 2, none⟩ = some (.int .i64 3) := (blk_cell HX.out 2).trans rfl
  go_region_held3 (fun w' => w'.cell? ⟨g3, 0, none⟩ = some (.string s) ∧ w'.cell? ⟨g3, 2, none⟩ = some (.int .i64 3)) (exact ⟨(blk_cell HX.out 0).trans rfl, (blk_cell HX.out 2).trans rfl⟩) (first
    | (go_at_call 151; (with_reducible refine (put_coo d s id 3 _ _ _ _ HD.out).mono ?_); rintro e5 w5 ⟨rfl, kc, cK, cV, h1, h2, h3, h4, h5⟩; replace HD := Aside0.mk h1; have HC := Aside0.mk (And.intro h2 (And.intro h3 h4)); replace HN := Aside0.mk (And.intro (h5.typ _ _ _ _ HN.out.1 (by decide)) (And.intro (h5.own HN.out.2.1 (by decide)) (h5.own HN.out.2.2 (by decide)))); replace HX := Aside0.mk (h5.typ _ _ _ _ HX.out (by decide)); replace HKP := Aside0.mk (HKP.out.trans h5); clear h1 h2 h3 h4 h5))
  clear x0 x2
  go_wp2_with fail
  have x2 : w5.cell? ⟨g3, 2, none⟩ = some (.int .i64 3) := (blk_cell HX.out 2).trans rfl
  have d4 : w5.cell? ⟨d, 4, none⟩ = some (.int .i64 0) := (blk_cell HD.out 4).trans rfl
  have f4 := blk_frozen HD.out 4
  go_region
  have hm : (max 0 3 : Int) = 3 := by decide
  rw [hm]
  have hsb := Lb.setCell_block w5 d 4 _ _ (.int .i64 3) HD.out
  have hsg := Lb.setCell_grown w5 d 4 _ _ (.int .i64 3) HD.out
  generalize w5.setCell ⟨d, 4, none⟩ (.int .i64 3) = w6 at hsb hsg ⊢
  have hk : Kp [d] w5 w6 := Kp.blk HD.out (.inr (.inr rfl)) hsg
  have hO : DirO w6 d s id := ⟨kn, nK, nV, kc, cK, cV, hsb, hk.typ _ _ _ _ HN.out.1 (by decide), hk.own HN.out.2.1 (by decide), hk.own HN.out.2.2 (by decide), hk.typ _ _ _ _ HC.out.1 (by decide), hk.own HC.out.2.1 (by decide), hk.own HC.out.2.2 (by decide)⟩
  have HO := Aside0.mk (hO.keep (Kp.of (Lb.below_drew w6) : Kp [] _ _) (by simp))
  have HZ := Aside0.mk ((HKP.out.trans hk).trans (Kp.of (Lb.below_drew w6)))
  clear hsb hsg hk hO
  go_end0
  exact ⟨rfl, HO.out, HZ.out⟩
set_option maxRecDepth 100000 in
theorem add_empty (d : Nat) (s : ByteArray) (id : Int) (w : World) (h : DirE w d) (hs : Good s) :
    Calls Tryz.prog 83 #[.pointer (some ⟨d, 0, none⟩), .string s, .int .i64 id] w fun e w' => e = .returned (.tuple #[.int .i64 3, .bool true]) ∧ DirO w' d s id ∧ Kp [d] w w' := by
  have HD := Aside0.mk h
  have HS := Aside0.mk hs
  have HKP := Aside0.mk (Kp.refl [d] w)
  clear h hs
  go_enter Tryz.func83, Tryz.ntmps83
  go_wp2_with (first
    | (go_at_call 123; (with_reducible refine (free_empty d s _ HD.out HS.out).mono ?_); rintro e1 w1 ⟨rfl, hb⟩; replace HD := Aside0.mk (Lb.blk_below HD.out hb); replace HKP := Aside0.mk (HKP.out.trans (Kp.of hb)); clear hb)
    | (go_at_call 45; (with_reducible refine (next_empty d _ HD.out).mono ?_); rintro e2 w2 ⟨rfl, rfl⟩)
    | ((with_reducible refine gate_dst (N := 8) rfl ?_); refine Lb.alloc_event ?hg (v := fun g => .pointer (some ⟨g, 0, none⟩)) (cs := #[.string ⟨#[]⟩, .int .i64 0, .int .i64 0]) (t := 108) (fr := (0, 0)) ?hr ?_; (case hg => rfl); (case hr => first | (go_simp; done) | (go_simp; rfl)); intro g8 hg8 w3 hx hb; have HX := Aside0.mk hx; replace HD := Aside0.mk (Lb.blk_below HD.out hb); have HG := Aside0.mk (show w.heap.size ≤ g8 by have := HKP.out.size; omega); replace HKP := Aside0.mk (HKP.out.trans (Kp.of hb)); clear hx hb hg8)
    | ((with_reducible refine gate_store (t := 108) (p := 8) rfl ?_); refine Lb.store_whole rfl rfl 108 (.tmp 8) (.tmp 17) rfl (new := #[.string s, .int .i64 id, .int .i64 3]) rfl rfl HX.out rfl (by kernel_rfl) (by simp [Value.oneCell']) ?_; intro w4 hb hg; replace HD := Aside0.mk (Lb.blk_grown' HD.out hg (ne_type HD.out HX.out (by decide))); replace HKP := Aside0.mk (HKP.out.new hg HG.out); replace HX := Aside0.mk hb; clear hb hg; have e0 := (blk_cell HX.out 0).trans rfl; have e1 := (blk_cell HX.out 1).trans rfl; have e2 := (blk_cell HX.out 2).trans rfl)
    | (go_at_call 124; (with_reducible refine (lay_empty d s id _ HD.out).mono ?_); rintro e5 w5 ⟨rfl, ho, hk⟩; have HO := Aside0.mk ho; replace HKP := Aside0.mk (HKP.out.trans hk); replace HX := Aside0.mk (hk.typ _ _ _ _ HX.out (by decide)); clear ho hk e0 e1 e2; have e2 := (blk_cell HX.out 2).trans rfl))
  go_ret2
  exact ⟨rfl, HO.out, HKP.out⟩
end Go.Proofs.YtlnfadlgjcnngaaGreat.Co
