/- owns, settable (no size told, nothing about moments). -/
import Derived.Test.YtlnfadlgjcnngaaGreatQ19
namespace Go.Proofs.YtlnfadlgjcnngaaGreat.Co
open Go.RowKit Go.Maps Go.Lib Go.Proofs.YtlnfadlgjcnngaaGreat.Ap Go.Proofs.YtlnfadlgjcnngaaGreatW.PrintWords Go.Proofs.YtlnfadlgjcnngaaGreatW.PrintLast Go.Proofs.YtlnfadlgjcnngaaGreatW.PrintMore
set_option linter.unusedVariables false
set_option linter.unusedSimpArgs false

set_option maxRecDepth 100000 in
theorem owns_calls (b : Nat) (now : Int) (w : World) :
    Calls Tryz.prog 80 #[rootC now, .pointer (some ⟨b, 0, none⟩)] w fun e w' => e = .returned (.bool true) ∧ Below w.heap.size w w' := by
  have HB := Aside0.mk (Below.refl w.heap.size w)
  go_enter Tryz.func80, Tryz.ntmps80
  go_upto_region 1 with (first
    | ((with_reducible refine gate_dst (N := 2) rfl ?_); refine Lb.alloc_event ?hg (v := fun g => .pointer (some ⟨g, 0, none⟩)) (cs := callC now) (t := 29) (fr := (0, 0)) ?hr ?_; (case hg => rfl); (case hr => first | (go_simp; done) | (go_simp; rfl)); intro g2 hg2 w1 hx hb; have HX := Aside0.mk hx; replace HB := Aside0.mk (below_step HB.out hb); clear hx hb hg2)
    | fail)
  obtain ⟨e0, e1, e2, e3⟩ := call_cells HX.out
  go_region
  all_goals go_wp2_with fail
  all_goals go_ret
  all_goals exact ⟨rfl, by first | exact HB.out | exact below_step HB.out (Lb.below_drew _)⟩

set_option maxRecDepth 100000 in
set_option maxHeartbeats 4000000 in
theorem settable_calls (b : Nat) (n : Nd) (now mode : Int) (hm : Bool) (w : World) (hn : NodeAt w b n) :
    Calls Tryz.prog 33 #[rootC now, .pointer (some ⟨b, 0, none⟩), setV hm false mode 0] w fun e w' => e = .returned (.int .i64 0) ∧ Below w.heap.size w w' := by
  have HN := Aside0.mk hn
  have HB := Aside0.mk (Below.refl w.heap.size w)
  clear hn
  go_enter Tryz.func33, Tryz.ntmps33
  go_upto_region 1 with (first
    | ((with_reducible refine gate_dst (N := 3) rfl ?_); refine Lb.alloc_event ?hg (v := fun g => .pointer (some ⟨g, 0, none⟩)) (cs := callC now) (t := 29) (fr := (0, 0)) ?hr ?_; (case hg => rfl); (case hr => first | (go_simp; done) | (go_simp; rfl)); intro g3 hg3 w1 hx hb; have HX := Aside0.mk hx; replace HN := Aside0.mk (Lb.blk_below HN.out hb); replace HB := Aside0.mk (below_step HB.out hb); clear hx hb hg3)
    | ((with_reducible refine gate_dst (N := 5) rfl ?_); refine Lb.alloc_event ?hg (v := fun g => .pointer (some ⟨g, 0, none⟩)) (cs := setC hm false mode 0) (t := 36) (fr := (0, 0)) ?hr ?_; (case hg => rfl); (case hr => first | (go_simp; done) | (go_simp; rfl)); intro g5 hg5 w2 hx hb; have HS := Aside0.mk hx; replace HX := Aside0.mk (Lb.blk_below HX.out hb); replace HN := Aside0.mk (Lb.blk_below HN.out hb); replace HB := Aside0.mk (below_step HB.out hb); clear hx hb hg5))
  replace HN := Aside0.mk (Lb.blk_below HN.out (Lb.below_drew _))
  replace HX := Aside0.mk (Lb.blk_below HX.out (Lb.below_drew _))
  replace HS := Aside0.mk (Lb.blk_below HS.out (Lb.below_drew _))
  replace HB := Aside0.mk (below_step HB.out (Lb.below_drew _))
  obtain ⟨e0, e1, e2, e3⟩ := call_cells HX.out
  go_region_held3 (fun w' => w'.cell? ⟨g3, 0, none⟩ = some (.int .i64 0) ∧ w'.cell? ⟨g3, 1, none⟩ = some (.int .i64 0) ∧ w'.cell? ⟨g3, 2, none⟩ = some (.slice none 0 0) ∧ w'.cell? ⟨g3, 3, none⟩ = some (.int .i64 now)) (exact call_cells HX.out) (first
    | (go_at_call 80; (with_reducible refine (owns_calls b now _).mono ?_); rintro e4 w4 ⟨rfl, hb⟩; replace HB := Aside0.mk (below_step HB.out hb); replace HN := Aside0.mk (Lb.blk_below HN.out hb); replace HX := Aside0.mk (Lb.blk_below HX.out hb); replace HS := Aside0.mk (Lb.blk_below HS.out hb); clear hb)
    | (go_at_call 81; (with_reducible refine (may_calls b n now 2 _ HN.out).mono ?_); rintro e5 w5 ⟨rfl, hb⟩; replace HB := Aside0.mk (below_step HB.out hb); replace HN := Aside0.mk (Lb.blk_below HN.out hb); replace HX := Aside0.mk (Lb.blk_below HX.out hb); replace HS := Aside0.mk (Lb.blk_below HS.out hb); clear hb))
  all_goals
    clear e0 e1 e2 e3
    obtain ⟨e0, e1, e2, e3⟩ := call_cells HX.out
    obtain ⟨s0, s1, s2, s3, s4, s7, s8, s9, s10, s11, s12, s13⟩ := set_cells HS.out
    have s6 := (blk_cell HS.out 6).trans (show (setC hm false mode 0)[6]? = some (Value.int .i64 0) from rfl)
    go_upto_region 2 with fail
  all_goals clear s0
  cases hm
  all_goals
    have s0 := (set_cells HS.out).1
    go_region
  all_goals
    go_upto_region 3 with fail
    go_region
  all_goals
    go_upto_region 11 with fail
  all_goals
    go_wp2_with ((with_reducible refine gate_dst (N := 109) rfl ?_); refine Lb.alloc_event ?hg (v := fun g => .slice (some ⟨g, 0, none⟩) 2 2) (cs := #[.int .i64 0, .int .i64 0]) (t := 3) (fr := (0, 0)) ?hr ?_; (case hg => rfl); (case hr => first | (go_simp; done) | (go_simp; rfl)); intro g9 hg9 w9 hx hb; have h0 : w9.cell? ⟨g9, 0, none⟩ = some (.int .i64 0) := (blk_cell hx 0).trans rfl; have h1 : w9.cell? ⟨g9, 1, none⟩ = some (.int .i64 0) := (blk_cell hx 1).trans rfl; have HB9 := Aside0.mk hb; clear hx hb hg9)
    refine wp_loop_rounds 3 ?_
    rw [rounds_succ]
    go_wp2_with fail
    rw [rounds_succ]
    go_wp2_with fail
    rw [rounds_succ]
    go_wp2_with fail
    go_ret
    refine ⟨rfl, ?_⟩
    trace_state
    first | exact below_step HB.out HB9.out | exact below_step (below_step HB.out (Lb.below_drew _)) HB9.out | exact below_step (below_step (below_step HB.out (Lb.below_drew _)) (Lb.below_drew _)) HB9.out
end Go.Proofs.YtlnfadlgjcnngaaGreat.Co
