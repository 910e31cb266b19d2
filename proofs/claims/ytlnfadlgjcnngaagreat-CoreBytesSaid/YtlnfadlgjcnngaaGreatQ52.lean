/- settable, set, SetAttr: a file's size. (Printed by wip/tools/mk_q52.py.) -/
import Derived.Test.YtlnfadlgjcnngaaGreatQy
namespace Go.Proofs.YtlnfadlgjcnngaaGreat.Co
open Go.RowKit Go.Maps Go.Lib Go.Proofs.YtlnfadlgjcnngaaGreat.Ap Go.Proofs.YtlnfadlgjcnngaaGreatW.PrintWords Go.Proofs.YtlnfadlgjcnngaaGreatW.PrintLast Go.Proofs.YtlnfadlgjcnngaaGreatW.PrintMore
set_option linter.unusedVariables false
set_option linter.unusedSimpArgs false

set_option maxRecDepth 100000 in
set_option maxHeartbeats 4000000 in
theorem settable_size (b : Nat) (n : Nd) (now size : Int) (w : World) (hn : NodeAt w b n) (hk : n.kind = 1) (hz0 : 0 ≤ size) (hz1 : size ≤ 8192) :
    Calls Tryz.prog 33 #[rootC now, .pointer (some ⟨b, 0, none⟩), setV false true 0 size] w fun e w' => e = .returned (.int .i64 0) ∧ Below w.heap.size w w' := by
  have HN := Aside0.mk hn
  have HK := Aside0.mk hk
  have HZ := Aside0.mk (And.intro hz0 hz1)
  have HB := Aside0.mk (Below.refl w.heap.size w)
  clear hn hk hz0 hz1
  go_enter Tryz.func33, Tryz.ntmps33
  go_upto_region 1 with (first
    | ((with_reducible refine gate_dst (N := 3) rfl ?_); refine Lb.alloc_event ?hg (v := fun g => .pointer (some ⟨g, 0, none⟩)) (cs := callC now) (t := 29) (fr := (0, 0)) ?hr ?_; (case hg => rfl); (case hr => first | (go_simp; done) | (go_simp; rfl)); intro g3 hg3 w1 hx hb; have HX := Aside0.mk hx; replace HN := Aside0.mk (Lb.blk_below HN.out hb); replace HB := Aside0.mk (below_step HB.out hb); clear hx hb hg3)
    | ((with_reducible refine gate_dst (N := 5) rfl ?_); refine Lb.alloc_event ?hg (v := fun g => .pointer (some ⟨g, 0, none⟩)) (cs := setC false true 0 size) (t := 36) (fr := (0, 0)) ?hr ?_; (case hg => rfl); (case hr => first | (go_simp; done) | (go_simp; rfl)); intro g5 hg5 w2 hx hb; have HS := Aside0.mk hx; replace HX := Aside0.mk (Lb.blk_below HX.out hb); replace HN := Aside0.mk (Lb.blk_below HN.out hb); replace HB := Aside0.mk (below_step HB.out hb); clear hx hb hg5))
  replace HN := Aside0.mk (Lb.blk_below HN.out (Lb.below_drew _))
  replace HX := Aside0.mk (Lb.blk_below HX.out (Lb.below_drew _))
  replace HS := Aside0.mk (Lb.blk_below HS.out (Lb.below_drew _))
  replace HB := Aside0.mk (below_step HB.out (Lb.below_drew _))
  obtain ⟨e0, e1, e2, e3⟩ := call_cells HX.out
  go_region_held3 (fun w' => w'.cell? ⟨g3, 0, none⟩ = some (.int .i64 0) ∧ w'.cell? ⟨g3, 1, none⟩ = some (.int .i64 0) ∧ w'.cell? ⟨g3, 2, none⟩ = some (.slice none 0 0) ∧ w'.cell? ⟨g3, 3, none⟩ = some (.int .i64 now)) (exact call_cells HX.out) (first
    | (go_at_call 80; (with_reducible refine (owns_calls b now _).mono ?_); rintro e4 w4 ⟨rfl, hb⟩; replace HB := Aside0.mk (below_step HB.out hb); replace HN := Aside0.mk (Lb.blk_below HN.out hb); replace HX := Aside0.mk (Lb.blk_below HX.out hb); replace HS := Aside0.mk (Lb.blk_below HS.out hb); clear hb)
    | (go_at_call 81; (with_reducible refine (may_calls b n now 2 _ HN.out).mono ?_); rintro e5 w5 ⟨rfl, hb⟩; replace HB := Aside0.mk (below_step HB.out hb); replace HN := Aside0.mk (Lb.blk_below HN.out hb); replace HX := Aside0.mk (Lb.blk_below HX.out hb); replace HS := Aside0.mk (Lb.blk_below HS.out hb); clear hb))
  all_goals
    clear e0 e1 e2 e3
    obtain ⟨e0, e1, e2, e3⟩ := call_cells HX.out
    obtain ⟨s0, s1, s2, s3, s4, s7, s8, s9, s10, s11, s12, s13⟩ := set_cells HS.out
    have s6 := (blk_cell HS.out 6).trans (show (setC false true 0 size)[6]? = some (Value.int .i64 0) from rfl)
    go_upto_region 2 with fail
  all_goals
    go_region
  all_goals
    go_upto_region 3 with fail
    go_region
  all_goals
    go_upto_region 11 with (first
      | (go_at_call 35; (with_reducible refine (sizable_calls b n size _ (by first | exact HN.out | exact Lb.blk_below HN.out (Lb.below_drew _) | exact Lb.blk_below (Lb.blk_below HN.out (Lb.below_drew _)) (Lb.below_drew _)) HK.out HZ.out.1 HZ.out.2).mono ?_); rintro e7 w7 ⟨rfl, rfl⟩))
  all_goals
    go_wp2_with ((with_reducible refine gate_dst (N := 109) rfl ?_); refine Lb.alloc_event ?hg (v := fun g => .slice (some ⟨g, 0, none⟩) 2 2) (cs := #[.int .i64 0, .int .i64 0]) (t := 3) (fr := (0, 0)) ?hr ?_; (case hg => rfl); (case hr => first | (go_simp; done) | (go_simp; rfl)); intro g9 hg9 w9 hx hb; have h0 : w9.cell? ⟨g9, 0, none⟩ = some (.int .i64 0) := (blk_cell hx 0).trans rfl; have h1 : w9.cell? ⟨g9, 1, none⟩ = some (.int .i64 0) := (blk_cell hx 1).trans rfl; have HB9 := Aside0.mk hb; clear hx hb hg9)
    refine wp_loop_rounds 3 ?_
    rw [rounds_succ]
    go_wp2_with fail
    rw [rounds_succ]
    go_wp2_with fail
    rw [rounds_succ]
    go_wp2_with fail
    go_ret
    refine ⟨rfl, ?_⟩
    first | exact below_step HB.out HB9.out | exact below_step (below_step HB.out (Lb.below_drew _)) HB9.out | exact below_step (below_step (below_step HB.out (Lb.below_drew _)) (Lb.below_drew _)) HB9.out
set_option maxRecDepth 100000 in
set_option maxHeartbeats 4000000 in
theorem set_same (b : Nat) (n : Nd) (now mode size : Int) (w : World) (hn : NodeAt w b n) (hsz : size = n.size) :
    Calls Tryz.prog 34 #[rootC now, .pointer (some ⟨b, 0, none⟩), setV false true mode size] w fun e w' => e = .returned (.tuple #[]) ∧ NodeAt w' b (n.setm false mode now) ∧ Kp [b] w w' := by
  have HN := Aside0.mk hn
  have HKP := Aside0.mk (Kp.refl [b] w)
  have HQ0 := Aside0.mk hsz
  clear hn hsz
  go_enter Tryz.func34, Tryz.ntmps34
  go_upto_region 8 with (first
    | ((with_reducible refine gate_dst (N := 3) rfl ?_); refine Lb.alloc_event ?hg (v := fun g => .pointer (some ⟨g, 0, none⟩)) (cs := #[.int .i64 0, .int .i64 0, .slice none 0 0, .int .i64 now]) (t := 29) (fr := (0, 0)) ?hr ?_; (case hg => rfl); (case hr => first | (go_simp; done) | (go_simp; rfl)); intro g3 hg3 w1 hx hb; have HX := Aside0.mk hx; replace HN := Aside0.mk (Lb.blk_below HN.out hb); replace HKP := Aside0.mk (HKP.out.trans (Kp.of hb)); clear hx hb hg3)
    | ((with_reducible refine gate_dst (N := 5) rfl ?_); refine Lb.alloc_event ?hg (v := fun g => .pointer (some ⟨g, 0, none⟩)) (cs := setC false true mode size) (t := 36) (fr := (0, 0)) ?hr ?_; (case hg => rfl); (case hr => first | (go_simp; done) | (go_simp; rfl)); intro g5 hg5 w2 hx hb; have HS := Aside0.mk hx; replace HX := Aside0.mk (Lb.blk_below HX.out hb); replace HN := Aside0.mk (Lb.blk_below HN.out hb); replace HKP := Aside0.mk (HKP.out.trans (Kp.of hb)); clear hx hb hg5; have e0 := (blk_cell HX.out 0).trans rfl; have e1 := (blk_cell HX.out 1).trans rfl; have e2 := (blk_cell HX.out 2).trans rfl; have e3 := (blk_cell HX.out 3).trans rfl; obtain ⟨s0, s1, s2, s3, s4, s7, s8, s9, s10, s11, s12, s13⟩ := set_cells HS.out)
    | (go_at_call 42; (with_reducible refine (time_calls now _).mono ?_); rintro e6 w6 ⟨rfl, hb⟩; replace HN := Aside0.mk (Lb.blk_below HN.out hb); replace HS := Aside0.mk (Lb.blk_below HS.out hb); replace HX := Aside0.mk (Lb.blk_below HX.out hb); replace HKP := Aside0.mk (HKP.out.trans (Kp.of hb)); clear hb e0 e1 e2 e3 s0 s1 s2 s3 s4 s7 s8 s9 s10 s11 s12 s13)
    | ((with_reducible refine gate_store (t := 34) (p := 38) rfl ?_); refine Lb.store_part rfl rfl 34 (.tmp 38) (.tmp 35) rfl (g := b) (off := 15) [.int .i64 now, .int .i64 0] rfl rfl rfl HN.out (by kernel_rfl) (show 15 + 2 ≤ 21 by decide) (by simp [Value.oneCell']) ?_; intro w7 cur' hb hc hg; obtain rfl := toList_eq (b := ndC (n.setm false mode now)) hc; have hk := Kp.blk HN.out (.inr (.inl rfl)) hg; replace HS := Aside0.mk (hk.typ _ _ _ _ HS.out (by decide)); replace HX := Aside0.mk (hk.typ _ _ _ _ HX.out (by decide)); replace HKP := Aside0.mk (HKP.out.trans hk); replace HN : Aside0 (NodeAt w7 b (n.setm false mode now)) := ⟨hb⟩; clear hb hg hk hc; have e0 := (blk_cell HX.out 0).trans rfl; have e1 := (blk_cell HX.out 1).trans rfl; have e2 := (blk_cell HX.out 2).trans rfl; have e3 := (blk_cell HX.out 3).trans rfl; obtain ⟨s0, s1, s2, s3, s4, s7, s8, s9, s10, s11, s12, s13⟩ := set_cells HS.out))
  have n5 : w7.cell? ⟨b, 5, none⟩ = some (.int .i64 size) := ((blk_cell HN.out 5).trans (show (ndC (n.setm false mode now))[5]? = some (.int .i64 n.size) from rfl)).trans (by rw [HQ0.out])
  have q1 : (size == size) = true := by simp
  have q2 : (size != size) = false := by simp
  go_quiet (fail)
  clear n5 q1 q2
  go_wp2_with fail
  replace HN := Aside0.mk (Lb.blk_below HN.out (bel_drewN _ nq))
  replace HS := Aside0.mk (Lb.blk_below HS.out (bel_drewN _ nq))
  replace HX := Aside0.mk (Lb.blk_below HX.out (bel_drewN _ nq))
  replace HKP := Aside0.mk (HKP.out.trans (Kp.of (bel_drewN _ nq)))
  clear e0 e1 e2 e3 s0 s1 s2 s3 s4 s7 s8 s9 s10 s11 s12 s13
  generalize w7.drewN nq = w8 at HN HS HX HKP ⊢
  obtain ⟨s0, s1, s2, s3, s4, s7, s8, s9, s10, s11, s12, s13⟩ := set_cells HS.out
  go_region
  have hq := draw2 w8 (momC b) 180
  have HQ := Aside0.mk hq.blk
  replace HN := Aside0.mk (Lb.blk_below HN.out hq.bel)
  replace HKP := Aside0.mk (HKP.out.trans (Kp.of hq.bel))
  clear hq s0 s1 s2 s3 s4 s7 s8 s9 s10 s11 s12 s13
  change Exit.then _ _ _ _ ((w8.alloc (.cells (momC b) 180)).drew)
  generalize (w8.alloc (.cells (momC b) 180)).drew = w9 at HN HQ HKP ⊢
  generalize w8.heap.size = gs at HQ ⊢
  go_wp2_with fail
  go_loopg [86] 2 (fun gk s86 wr => ∃ i : Nat, i + gk = 2 ∧ s86 = .int .i64 i ∧ Aside0 (NodeAt wr b (n.setm false mode now) ∧ wr.heap[gs]? = some (.cells (momC b) 180 (0, 0)) ∧ Kp [b] w wr))
  case atStart => exact ⟨0, by omega, rfl, ⟨HN.out, HQ.out, HKP.out⟩⟩
  case round =>
    clear HN HQ HKP
    obtain ⟨i, hi, rfl, HK⟩ := hrel
    obtain ⟨z0, z1, z2, z3, z4, z5, z6, z7⟩ := mom_cells HK.out.2.1
    cases gk with
    | zero =>
      obtain rfl : i = 2 := by omega
      go_wp2_with fail
      go_end0
      exact ⟨rfl, HK.out.1, HK.out.2.2⟩
    | succ gk =>
      have hi2 : i = 0 ∨ i = 1 := by omega
      have HI := Aside0.mk hi
      clear hi
      rcases hi2 with rfl | rfl
      all_goals
        go_wp2_with fail
        go_roundg gk
        case measure => omega
        case rel => first | exact ⟨1, by have := HI.out; omega, rfl, ⟨Lb.blk_below HK.out.1 (below_alloc (Below.refl _ _) _), Lb.blk_below HK.out.2.1 (below_alloc (Below.refl _ _) _), HK.out.2.2.trans (Kp.of (below_alloc (Below.refl _ _) _))⟩⟩ | exact ⟨2, by have := HI.out; omega, rfl, ⟨Lb.blk_below HK.out.1 (below_alloc (Below.refl _ _) _), Lb.blk_below HK.out.2.1 (below_alloc (Below.refl _ _) _), HK.out.2.2.trans (Kp.of (below_alloc (Below.refl _ _) _))⟩⟩
/-- a node with another size -/
def Nd.sized (n : Nd) (size : Nat) (now : Int) : Nd := { ({ n with tc := now, nc := 0 } : Nd).filled (cutB n.data size) with tm := now, nm := 0 }
theorem sd_cells {w : World} {b g5 : Nat} {n : Nd} {mode now : Int} {size : Nat} (h : NodeAt w b (n.setm false mode now)) (hs : w.heap[g5]? = some (.cells (setC false true mode size) 36 (0, 0))) : w.cell? ⟨b, 17, none⟩ = some (.string n.data) ∧ w.cell? ⟨g5, 7, none⟩ = some (.int .i64 size) :=
  ⟨(blk_cell h 17).trans rfl, (blk_cell hs 7).trans rfl⟩
set_option maxRecDepth 100000 in
set_option maxHeartbeats 4000000 in
theorem set_other (b : Nat) (n : Nd) (now mode : Int) (size : Nat) (w : World) (hn : NodeAt w b n) (hsz : (size : Int) ≠ n.size) (hd : n.data.size ≤ 9000) (hz : size ≤ 9000) :
    Calls Tryz.prog 34 #[rootC now, .pointer (some ⟨b, 0, none⟩), setV false true mode size] w fun e w' => e = .returned (.tuple #[]) ∧ NodeAt w' b (n.sized size now) ∧ Kp [b] w w' := by
  have HN := Aside0.mk hn
  have HKP := Aside0.mk (Kp.refl [b] w)
  have HQ0 := Aside0.mk hsz
  have HD := Aside0.mk (And.intro hd hz)
  clear hn hsz hd hz
  go_enter Tryz.func34, Tryz.ntmps34
  go_upto_region 8 with (first
    | ((with_reducible refine gate_dst (N := 3) rfl ?_); refine Lb.alloc_event ?hg (v := fun g => .pointer (some ⟨g, 0, none⟩)) (cs := #[.int .i64 0, .int .i64 0, .slice none 0 0, .int .i64 now]) (t := 29) (fr := (0, 0)) ?hr ?_; (case hg => rfl); (case hr => first | (go_simp; done) | (go_simp; rfl)); intro g3 hg3 w1 hx hb; have HX := Aside0.mk hx; replace HN := Aside0.mk (Lb.blk_below HN.out hb); replace HKP := Aside0.mk (HKP.out.trans (Kp.of hb)); clear hx hb hg3)
    | ((with_reducible refine gate_dst (N := 5) rfl ?_); refine Lb.alloc_event ?hg (v := fun g => .pointer (some ⟨g, 0, none⟩)) (cs := setC false true mode size) (t := 36) (fr := (0, 0)) ?hr ?_; (case hg => rfl); (case hr => first | (go_simp; done) | (go_simp; rfl)); intro g5 hg5 w2 hx hb; have HS := Aside0.mk hx; replace HX := Aside0.mk (Lb.blk_below HX.out hb); replace HN := Aside0.mk (Lb.blk_below HN.out hb); replace HKP := Aside0.mk (HKP.out.trans (Kp.of hb)); clear hx hb hg5; have e0 := (blk_cell HX.out 0).trans rfl; have e1 := (blk_cell HX.out 1).trans rfl; have e2 := (blk_cell HX.out 2).trans rfl; have e3 := (blk_cell HX.out 3).trans rfl; obtain ⟨s0, s1, s2, s3, s4, s7, s8, s9, s10, s11, s12, s13⟩ := set_cells HS.out)
    | (go_at_call 42; (with_reducible refine (time_calls now _).mono ?_); rintro e6 w6 ⟨rfl, hb⟩; replace HN := Aside0.mk (Lb.blk_below HN.out hb); replace HS := Aside0.mk (Lb.blk_below HS.out hb); replace HX := Aside0.mk (Lb.blk_below HX.out hb); replace HKP := Aside0.mk (HKP.out.trans (Kp.of hb)); clear hb e0 e1 e2 e3 s0 s1 s2 s3 s4 s7 s8 s9 s10 s11 s12 s13)
    | ((with_reducible refine gate_store (t := 34) (p := 38) rfl ?_); refine Lb.store_part rfl rfl 34 (.tmp 38) (.tmp 35) rfl (g := b) (off := 15) [.int .i64 now, .int .i64 0] rfl rfl rfl HN.out (by kernel_rfl) (show 15 + 2 ≤ 21 by decide) (by simp [Value.oneCell']) ?_; intro w7 cur' hb hc hg; obtain rfl := toList_eq (b := ndC (n.setm false mode now)) hc; have hk := Kp.blk HN.out (.inr (.inl rfl)) hg; replace HS := Aside0.mk (hk.typ _ _ _ _ HS.out (by decide)); replace HX := Aside0.mk (hk.typ _ _ _ _ HX.out (by decide)); replace HKP := Aside0.mk (HKP.out.trans hk); replace HN : Aside0 (NodeAt w7 b (n.setm false mode now)) := ⟨hb⟩; clear hb hg hk hc; have e0 := (blk_cell HX.out 0).trans rfl; have e1 := (blk_cell HX.out 1).trans rfl; have e2 := (blk_cell HX.out 2).trans rfl; have e3 := (blk_cell HX.out 3).trans rfl; obtain ⟨s0, s1, s2, s3, s4, s7, s8, s9, s10, s11, s12, s13⟩ := set_cells HS.out))
  have n5 : w7.cell? ⟨b, 5, none⟩ = some (.int .i64 n.size) := (blk_cell HN.out 5).trans rfl
  have hq0 := HQ0.out
  have q1 : ((size : Int) == n.size) = false := beq_eq_false_iff_ne.2 hq0
  have q2 : ((size : Int) != n.size) = true := by rw [bne_iff_ne]; exact hq0
  go_quiet (fail)
  clear n5 q1 q2 hq0
  replace HN := Aside0.mk (Lb.blk_below HN.out (bel_drewN _ nq))
  replace HS := Aside0.mk (Lb.blk_below HS.out (bel_drewN _ nq))
  replace HX := Aside0.mk (Lb.blk_below HX.out (bel_drewN _ nq))
  replace HKP := Aside0.mk (HKP.out.trans (Kp.of (bel_drewN _ nq)))
  clear e0 e1 e2 e3 s0 s1 s2 s3 s4 s7 s8 s9 s10 s11 s12 s13
  generalize w7.drewN nq = w8 at HN HS HX HKP ⊢
  go_upto_region 9 with fail
  replace HN := Aside0.mk (Lb.blk_below HN.out (Lb.below_drew _))
  replace HS := Aside0.mk (Lb.blk_below HS.out (Lb.below_drew _))
  replace HX := Aside0.mk (Lb.blk_below HX.out (Lb.below_drew _))
  replace HKP := Aside0.mk (HKP.out.trans (Kp.of (Lb.below_drew _)))
  obtain ⟨n17, s7⟩ := sd_cells HN.out HS.out
  go_region_with (first
    | (go_at_call 40; (with_reducible refine (cut_calls n.data size _ (by have := HD.out; omega) (by have := HD.out; omega)).mono ?_); rintro e9 w9 ⟨rfl, hb⟩; replace HN := Aside0.mk (Lb.blk_below HN.out hb); replace HS := Aside0.mk (Lb.blk_below HS.out hb); replace HX := Aside0.mk (Lb.blk_below HX.out hb); replace HKP := Aside0.mk (HKP.out.trans (Kp.of hb)); clear hb n17 s7)
    | (go_at_call 41; (with_reducible refine (fill_calls b _ _ _ HN.out (by rw [cutB_size]; have := HD.out; omega)).mono ?_); rintro e10 w10 ⟨rfl, hn5, hk5⟩; replace HS := Aside0.mk (hk5.typ _ _ _ _ HS.out (by decide)); replace HX := Aside0.mk (hk5.typ _ _ _ _ HX.out (by decide)); replace HKP := Aside0.mk (HKP.out.trans hk5); replace HN := Aside0.mk hn5; clear hn5 hk5))
  all_goals
    have e0 := (blk_cell HX.out 0).trans rfl
    have e1 := (blk_cell HX.out 1).trans rfl
    have e2 := (blk_cell HX.out 2).trans rfl
    have e3 := (blk_cell HX.out 3).trans rfl
    go_upto_region 11 with (first
      | (go_at_call 42; (with_reducible refine (time_calls now _).mono ?_); rintro e12 w12 ⟨rfl, hb⟩; replace HN := Aside0.mk (Lb.blk_below HN.out hb); replace HS := Aside0.mk (Lb.blk_below HS.out hb); replace HX := Aside0.mk (Lb.blk_below HX.out hb); replace HKP := Aside0.mk (HKP.out.trans (Kp.of hb)); clear hb e0 e1 e2 e3)
      | ((with_reducible refine gate_store (t := 34) (p := 65) rfl ?_); refine Lb.store_part rfl rfl 34 (.tmp 65) (.tmp 62) rfl (g := b) (off := 13) [.int .i64 now, .int .i64 0] rfl rfl rfl HN.out (by kernel_rfl) (show 13 + 2 ≤ 21 by decide) (by simp [Value.oneCell']) ?_; intro w13 cur' hb hc hg; obtain rfl := toList_eq (b := ndC (n.sized size now)) hc; have hk := Kp.blk HN.out (.inr (.inl rfl)) hg; replace HS := Aside0.mk (hk.typ _ _ _ _ HS.out (by decide)); replace HX := Aside0.mk (hk.typ _ _ _ _ HX.out (by decide)); replace HKP := Aside0.mk (HKP.out.trans hk); replace HN : Aside0 (NodeAt w13 b (n.sized size now)) := ⟨hb⟩; clear hb hg hk hc))
    (try clear n17 s7)
    obtain ⟨s0, s1, s2, s3, s4, s7, s8, s9, s10, s11, s12, s13⟩ := set_cells HS.out
    go_region
    have hq := draw2 w13 (momC b) 180
    have HQ := Aside0.mk hq.blk
    replace HN := Aside0.mk (Lb.blk_below HN.out hq.bel)
    replace HKP := Aside0.mk (HKP.out.trans (Kp.of hq.bel))
    clear hq s0 s1 s2 s3 s4 s7 s8 s9 s10 s11 s12 s13
    change Exit.then _ _ _ _ ((w13.alloc (.cells (momC b) 180)).drew)
    generalize (w13.alloc (.cells (momC b) 180)).drew = w9 at HN HQ HKP ⊢
    generalize w13.heap.size = gs at HQ ⊢
    go_wp2_with fail
    go_loopg [86] 2 (fun gk s86 wr => ∃ i : Nat, i + gk = 2 ∧ s86 = .int .i64 i ∧ Aside0 (NodeAt wr b ((n.sized size now)) ∧ wr.heap[gs]? = some (.cells (momC b) 180 (0, 0)) ∧ Kp [b] w wr))
    case atStart => exact ⟨0, by omega, rfl, ⟨HN.out, HQ.out, HKP.out⟩⟩
    case round =>
      clear HN HQ HKP
      obtain ⟨i, hi, rfl, HK⟩ := hrel
      obtain ⟨z0, z1, z2, z3, z4, z5, z6, z7⟩ := mom_cells HK.out.2.1
      cases gk with
      | zero =>
        obtain rfl : i = 2 := by omega
        go_wp2_with fail
        go_end0
        exact ⟨rfl, HK.out.1, HK.out.2.2⟩
      | succ gk =>
        have hi2 : i = 0 ∨ i = 1 := by omega
        have HI := Aside0.mk hi
        clear hi
        rcases hi2 with rfl | rfl
        all_goals
          go_wp2_with fail
          go_roundg gk
          case measure => omega
          case rel => first | exact ⟨1, by have := HI.out; omega, rfl, ⟨Lb.blk_below HK.out.1 (below_alloc (Below.refl _ _) _), Lb.blk_below HK.out.2.1 (below_alloc (Below.refl _ _) _), HK.out.2.2.trans (Kp.of (below_alloc (Below.refl _ _) _))⟩⟩ | exact ⟨2, by have := HI.out; omega, rfl, ⟨Lb.blk_below HK.out.1 (below_alloc (Below.refl _ _) _), Lb.blk_below HK.out.2.1 (below_alloc (Below.refl _ _) _), HK.out.2.2.trans (Kp.of (below_alloc (Below.refl _ _) _))⟩⟩
end Go.Proofs.YtlnfadlgjcnngaaGreat.Co
