/- SetAttr of a mode, with a guard. -/
import Derived.Test.YtlnfadlgjcnngaaGreatQ20
namespace Go.Proofs.YtlnfadlgjcnngaaGreat.Co
open Go.RowKit Go.Maps Go.Lib Go.Proofs.YtlnfadlgjcnngaaGreat.Ap Go.Proofs.YtlnfadlgjcnngaaGreatW.PrintWords Go.Proofs.YtlnfadlgjcnngaaGreatW.PrintLast Go.Proofs.YtlnfadlgjcnngaaGreatW.PrintMore
set_option linter.unusedVariables false
set_option linter.unusedSimpArgs false

theorem eqTime (d : Nat) (w : World) (x0 y0 : Int) (x1 y1 : Int) :
    (Op.equalIn (d + 2) 34 (.agg #[.int .i64 x0, .int .i64 x1]) (.agg #[.int .i64 y0, .int .i64 y1])).run Tryz.prog w = .ok (x0 == y0 && (x1 == y1)) w := by
  refine eqA_of Tryz.underlying34 (by kernel_rfl) ?_
  refine eqf_cons (by rfl) (by go_simp; rfl) (by go_simp; rfl) (by go_simp) ?_
  exact eqf_last (by rfl) (by go_simp; rfl) (by go_simp; rfl) (by go_simp)
theorem neTime (w : World) (x0 y0 : Int) (x1 y1 : Int) :
    (binOp .neq 34 (.agg #[.int .i64 x0, .int .i64 x1]) (.agg #[.int .i64 y0, .int .i64 y1])).run Tryz.prog w = .ok (.bool (!(x0 == y0 && (x1 == y1)))) w := by
  simp only [binOp]
  simp [Op.equal, Op.maxDepth, eqTime 9998]

set_option maxRecDepth 100000 in
set_option maxHeartbeats 4000000 in
theorem setattr_calls (g bN bM : Nat) (last : Int) (F : Int → Option Nat) (m b gg : Nat) (n : Nd) (now i mode S N : Int) (w : World) (h : FsAt w g bN bM last F m) (hm : m ≤ 800000) (hi : InI i) (hF : F i = some b) (hn : NodeAt w b n) (hg : w.heap[gg]? = some (.cells #[.int .i64 S, .int .i64 N] 34 (0, 0))) (q : Bool) (hq : (S == n.tc && (N == n.nc)) = q) :
    Calls Tryz.prog 12 #[.pointer (some ⟨g, 0, none⟩), rootC now, .int .i64 i, setV true false mode 0, .slice (some ⟨gg, 0, none⟩) 1 1] w fun e w' =>
      (q = false → e = .returned (.int .i64 10002) ∧ Below w.heap.size w w') ∧ (q = true → e = .returned (.int .i64 0) ∧ NodeAt w' b (n.setm true mode now) ∧ FsAt w' g bN bM last F (m + 1) ∧ Kp [bM, b] w w') := by
  have HM := Aside0.mk hm
  have H := Aside0.mk h
  have HI := Aside0.mk (And.intro hi hF)
  have HN := Aside0.mk hn
  have HG := Aside0.mk hg
  have HB := Aside0.mk (Below.refl w.heap.size w)
  have hne := neTime
  clear h hm hn hg hi hF
  go_enter Tryz.func12, Tryz.ntmps12
  go_upto_region 4 with (first
    | ((with_reducible refine gate_dst (N := 6) rfl ?_); refine Lb.alloc_event ?hg (v := fun g => .pointer (some ⟨g, 0, none⟩)) (cs := callC now) (t := 29) (fr := (0, 0)) ?hr ?_; (case hg => rfl); (case hr => first | (go_simp; done) | (go_simp; rfl)); intro g6 hg6 w1 hx hb; have HX := Aside0.mk hx; replace H := Aside0.mk (H.out.step hb); replace HN := Aside0.mk (Lb.blk_below HN.out hb); replace HG := Aside0.mk (Lb.blk_below HG.out hb); replace HB := Aside0.mk (below_step HB.out hb); clear hx hb hg6)
    | ((with_reducible refine gate_dst (N := 8) rfl ?_); refine Lb.alloc_event ?hg (v := fun g => .pointer (some ⟨g, 0, none⟩)) (cs := setC true false mode 0) (t := 36) (fr := (0, 0)) ?hr ?_; (case hg => rfl); (case hr => first | (go_simp; done) | (go_simp; rfl)); intro g8 hg8 w2 hx hb; have HS := Aside0.mk hx; replace HX := Aside0.mk (Lb.blk_below HX.out hb); replace H := Aside0.mk (H.out.step hb); replace HN := Aside0.mk (Lb.blk_below HN.out hb); replace HG := Aside0.mk (Lb.blk_below HG.out hb); replace HB := Aside0.mk (below_step HB.out hb); clear hx hb hg8)
    | (go_at_call 38; (with_reducible refine (get_calls g bN bM last F m b i _ H.out HI.out.1 HI.out.2).mono ?_); rintro e w3 ⟨rfl, rfl⟩))
  have c0 : w2.cell? ⟨gg, 0, none⟩ = some (.int .i64 S) := (blk_cell HG.out 0).trans rfl
  have c1 : w2.cell? ⟨gg, 1, none⟩ = some (.int .i64 N) := (blk_cell HG.out 1).trans rfl
  have n15 : w2.cell? ⟨b, 15, none⟩ = some (.int .i64 n.tc) := (blk_cell HN.out 15).trans rfl
  have n16 : w2.cell? ⟨b, 16, none⟩ = some (.int .i64 n.nc) := (blk_cell HN.out 16).trans rfl
  go_region
  all_goals
    replace H := Aside0.mk (H.out.step (Lb.below_drew _))
    replace HN := Aside0.mk (Lb.blk_below HN.out (Lb.below_drew _))
    replace HX := Aside0.mk (Lb.blk_below HX.out (Lb.below_drew _))
    replace HS := Aside0.mk (Lb.blk_below HS.out (Lb.below_drew _))
    replace HB := Aside0.mk (below_step HB.out (Lb.below_drew _))
    clear c0 c1 n15 n16 hne hq
    cases q
    · go_wp2_with fail
      go_ret
      exact ⟨rfl, HB.out⟩
    · go_upto_region 9 with (first
        | ((with_reducible refine gate_dst (N := 39) rfl ?_); refine wpList_load_row rfl 29 (.tmp 6) rfl g6 rfl 29 (callC now) (0, 0) _ HX.out Tryz.underlying29 rfl (by kernel_rfl) ?_)
        | ((with_reducible refine gate_dst (N := 41) rfl ?_); refine wpList_load_row rfl 36 (.tmp 8) rfl g8 rfl 36 (setC true false mode 0) (0, 0) _ HS.out Tryz.underlying36 rfl (by kernel_rfl) ?_)
        | (go_at_call 33; (refine (settable_calls b n now mode true _ HN.out).mono ?_); rintro e w4 ⟨rfl, hb⟩; replace H := Aside0.mk (H.out.step hb); replace HN := Aside0.mk (Lb.blk_below HN.out hb); replace HX := Aside0.mk (Lb.blk_below HX.out hb); replace HS := Aside0.mk (Lb.blk_below HS.out hb); replace HB := Aside0.mk (below_step HB.out hb); clear hb))
      go_wp2_with (first
        | ((with_reducible refine gate_dst (N := 46) rfl ?_); refine wpList_load_row rfl 29 (.tmp 6) rfl g6 rfl 29 (callC now) (0, 0) _ HX.out Tryz.underlying29 rfl (by kernel_rfl) ?_)
        | ((with_reducible refine gate_dst (N := 48) rfl ?_); refine wpList_load_row rfl 36 (.tmp 8) rfl g8 rfl 36 (setC true false mode 0) (0, 0) _ HS.out Tryz.underlying36 rfl (by kernel_rfl) ?_)
        | (go_at_call 34; (refine (set_mode b n now mode 0 _ HN.out).mono ?_); rintro e w5 ⟨rfl, hn5, hk5⟩; have H5 := Aside0.mk (H.out.node hk5 HN.out); have HN5 := Aside0.mk hn5; have HK5 := Aside0.mk ((Kp.of (ks := [b]) HB.out).trans hk5); clear hn5 hk5)
        | (go_at_call 30; (refine (touch_calls g bN bM last F m i ⟨#[]⟩ _ H5.out (by have := HM.out; omega) HI.out.1 (Nat.zero_le _)).mono ?_); rintro e w6 ⟨rfl, hf, hk⟩; have hx := H5.out.neN HN5.out; have HN6 := Aside0.mk (hk.keep _ _ HN5.out (by simpa using fun e : b = bM => hx.2 e.symm)); have HK6 : Aside0 (Kp [bM, b] w w6) := ⟨(HK5.out.mono (by simp)).trans (hk.mono (by simp))⟩; have HF6 := Aside0.mk hf; clear hf hk hx))
      go_ret
      exact ⟨rfl, HN6.out, HF6.out, HK6.out⟩
end Go.Proofs.YtlnfadlgjcnngaaGreat.Co
