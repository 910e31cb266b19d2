/- set: what is set of a node: nothing, or its mode. -/
import Derived.Test.YtlnfadlgjcnngaaGreatQ08
namespace Go.Proofs.YtlnfadlgjcnngaaGreat.Co
open Go.RowKit Go.Maps Go.Lib Go.Proofs.YtlnfadlgjcnngaaGreat.Ap Go.Proofs.YtlnfadlgjcnngaaGreatW.PrintWords Go.Proofs.YtlnfadlgjcnngaaGreatW.PrintLast Go.Proofs.YtlnfadlgjcnngaaGreatW.PrintMore
set_option linter.unusedVariables false
set_option linter.unusedSimpArgs false

theorem toList_eq {a b : Array Value} (h : a.toList = b.toList) : a = b := by cases a; cases b; simp_all
/-- a Set: perhaps a mode, perhaps a size -/
abbrev setC (hm hz : Bool) (mode size : Int) : Array Value := #[.bool hm, .bool false, .bool false, .bool hz, .int .i64 mode, .int .i64 0, .int .i64 0, .int .i64 size, .int .i64 0, .int .i64 0, .int .i64 0, .int .i64 0, .int .i64 0, .int .i64 0]
abbrev setV (hm hz : Bool) (mode size : Int) : Value := .agg (setC hm hz mode size)
theorem set_cells {w : World} {g : Nat} {hm hz : Bool} {mode size : Int} (h : w.heap[g]? = some (.cells (setC hm hz mode size) 36 (0, 0))) :
    w.cell? ⟨g, 0, none⟩ = some (.bool hm) ∧ w.cell? ⟨g, 1, none⟩ = some (.bool false) ∧ w.cell? ⟨g, 2, none⟩ = some (.bool false) ∧ w.cell? ⟨g, 3, none⟩ = some (.bool hz) ∧ w.cell? ⟨g, 4, none⟩ = some (.int .i64 mode) ∧ w.cell? ⟨g, 7, none⟩ = some (.int .i64 size) ∧
    w.cell? ⟨g, 8, none⟩ = some (.int .i64 0) ∧ w.cell? ⟨g, 9, none⟩ = some (.int .i64 0) ∧ w.cell? ⟨g, 10, none⟩ = some (.int .i64 0) ∧ w.cell? ⟨g, 11, none⟩ = some (.int .i64 0) ∧ w.cell? ⟨g, 12, none⟩ = some (.int .i64 0) ∧ w.cell? ⟨g, 13, none⟩ = some (.int .i64 0) :=
  ⟨(blk_cell h 0).trans rfl, (blk_cell h 1).trans rfl, (blk_cell h 2).trans rfl, (blk_cell h 3).trans rfl, (blk_cell h 4).trans rfl, (blk_cell h 7).trans rfl, (blk_cell h 8).trans rfl, (blk_cell h 9).trans rfl, (blk_cell h 10).trans rfl, (blk_cell h 11).trans rfl, (blk_cell h 12).trans rfl, (blk_cell h 13).trans rfl⟩
/-- a mode's bits -/
def bits12 (m : Int) : Int := Go.bits .and .i64 m 4095
def Nd.setm (n : Nd) (hm : Bool) (mode now : Int) : Nd := { n with mode := if hm then bits12 mode else n.mode, tc := now, nc := 0 }

/-- what is to be done with a node's moments: nothing -/
abbrev momC (b : Nat) : Array Value := #[.int .i64 0, .int .i64 0, .int .i64 0, .pointer (some ⟨b, 11, none⟩), .int .i64 0, .int .i64 0, .int .i64 0, .pointer (some ⟨b, 13, none⟩)]
theorem mom_cells {w : World} {g b : Nat} {t : TypeId} (h : w.heap[g]? = some (.cells (momC b) t (0, 0))) : w.cell? ⟨g, 0, none⟩ = some (.int .i64 0) ∧ w.cell? ⟨g, 1, none⟩ = some (.int .i64 0) ∧ w.cell? ⟨g, 2, none⟩ = some (.int .i64 0) ∧ w.cell? ⟨g, 3, none⟩ = some (.pointer (some ⟨b, 11, none⟩)) ∧
    w.cell? ⟨g, 4, none⟩ = some (.int .i64 0) ∧ w.cell? ⟨g, 5, none⟩ = some (.int .i64 0) ∧ w.cell? ⟨g, 6, none⟩ = some (.int .i64 0) ∧ w.cell? ⟨g, 7, none⟩ = some (.pointer (some ⟨b, 13, none⟩)) :=
  ⟨(blk_cell h 0).trans rfl, (blk_cell h 1).trans rfl, (blk_cell h 2).trans rfl, (blk_cell h 3).trans rfl, (blk_cell h 4).trans rfl, (blk_cell h 5).trans rfl, (blk_cell h 6).trans rfl, (blk_cell h 7).trans rfl⟩
set_option maxRecDepth 100000 in
set_option maxHeartbeats 4000000 in
theorem set_none (b : Nat) (n : Nd) (now mode size : Int) (w : World) (hn : NodeAt w b n) :
    Calls Tryz.prog 34 #[rootC now, .pointer (some ⟨b, 0, none⟩), setV false false mode size] w fun e w' => e = .returned (.tuple #[]) ∧ NodeAt w' b (n.setm false mode now) ∧ Kp [b] w w' := by
  have HN := Aside0.mk hn
  have HKP := Aside0.mk (Kp.refl [b] w)
  clear hn
  go_enter Tryz.func34, Tryz.ntmps34
  go_upto_region 8 with (first
    | ((with_reducible refine gate_dst (N := 3) rfl ?_); refine Lb.alloc_event ?hg (v := fun g => .pointer (some ⟨g, 0, none⟩)) (cs := #[.int .i64 0, .int .i64 0, .slice none 0 0, .int .i64 now]) (t := 29) (fr := (0, 0)) ?hr ?_; (case hg => rfl); (case hr => first | (go_simp; done) | (go_simp; rfl)); intro g3 hg3 w1 hx hb; have HX := Aside0.mk hx; replace HN := Aside0.mk (Lb.blk_below HN.out hb); replace HKP := Aside0.mk (HKP.out.trans (Kp.of hb)); clear hx hb hg3)
    | ((with_reducible refine gate_dst (N := 5) rfl ?_); refine Lb.alloc_event ?hg (v := fun g => .pointer (some ⟨g, 0, none⟩)) (cs := setC false false mode size) (t := 36) (fr := (0, 0)) ?hr ?_; (case hg => rfl); (case hr => first | (go_simp; done) | (go_simp; rfl)); intro g5 hg5 w2 hx hb; have HS := Aside0.mk hx; replace HX := Aside0.mk (Lb.blk_below HX.out hb); replace HN := Aside0.mk (Lb.blk_below HN.out hb); replace HKP := Aside0.mk (HKP.out.trans (Kp.of hb)); clear hx hb hg5; have e0 := (blk_cell HX.out 0).trans rfl; have e1 := (blk_cell HX.out 1).trans rfl; have e2 := (blk_cell HX.out 2).trans rfl; have e3 := (blk_cell HX.out 3).trans rfl; obtain ⟨s0, s1, s2, s3, s4, s7, s8, s9, s10, s11, s12, s13⟩ := set_cells HS.out)
    | (go_at_call 42; (with_reducible refine (time_calls now _).mono ?_); rintro e6 w6 ⟨rfl, hb⟩; replace HN := Aside0.mk (Lb.blk_below HN.out hb); replace HS := Aside0.mk (Lb.blk_below HS.out hb); replace HX := Aside0.mk (Lb.blk_below HX.out hb); replace HKP := Aside0.mk (HKP.out.trans (Kp.of hb)); clear hb e0 e1 e2 e3 s0 s1 s2 s3 s4 s7 s8 s9 s10 s11 s12 s13)
    | ((with_reducible refine gate_store (t := 34) (p := 38) rfl ?_); refine Lb.store_part rfl rfl 34 (.tmp 38) (.tmp 35) rfl (g := b) (off := 15) [.int .i64 now, .int .i64 0] rfl rfl rfl HN.out (by kernel_rfl) (show 15 + 2 ≤ 21 by decide) (by simp [Value.oneCell']) ?_; intro w7 cur' hb hc hg; obtain rfl := toList_eq (b := ndC (n.setm false mode now)) hc; have hk := Kp.blk HN.out (.inr (.inl rfl)) hg; replace HS := Aside0.mk (hk.typ _ _ _ _ HS.out (by decide)); replace HX := Aside0.mk (hk.typ _ _ _ _ HX.out (by decide)); replace HKP := Aside0.mk (HKP.out.trans hk); replace HN : Aside0 (NodeAt w7 b (n.setm false mode now)) := ⟨hb⟩; clear hb hg hk hc; have e0 := (blk_cell HX.out 0).trans rfl; have e1 := (blk_cell HX.out 1).trans rfl; have e2 := (blk_cell HX.out 2).trans rfl; have e3 := (blk_cell HX.out 3).trans rfl; obtain ⟨s0, s1, s2, s3, s4, s7, s8, s9, s10, s11, s12, s13⟩ := set_cells HS.out))
  go_quiet (fail)
  go_wp2_with fail
  replace HN := Aside0.mk (Lb.blk_below HN.out (bel_drewN _ nq))
  replace HS := Aside0.mk (Lb.blk_below HS.out (bel_drewN _ nq))
  replace HX := Aside0.mk (Lb.blk_below HX.out (bel_drewN _ nq))
  replace HKP := Aside0.mk (HKP.out.trans (Kp.of (bel_drewN _ nq)))
  clear e0 e1 e2 e3 s0 s1 s2 s3 s4 s7 s8 s9 s10 s11 s12 s13
  generalize w7.drewN nq = w8 at HN HS HX HKP ⊢
  obtain ⟨s0, s1, s2, s3, s4, s7, s8, s9, s10, s11, s12, s13⟩ := set_cells HS.out
  go_region
  have hq := draw2 w8 (momC b) 180
  have HQ := Aside0.mk hq.blk
  replace HN := Aside0.mk (Lb.blk_below HN.out hq.bel)
  replace HKP := Aside0.mk (HKP.out.trans (Kp.of hq.bel))
  clear hq s0 s1 s2 s3 s4 s7 s8 s9 s10 s11 s12 s13
  change Exit.then _ _ _ _ ((w8.alloc (.cells (momC b) 180)).drew)
  generalize (w8.alloc (.cells (momC b) 180)).drew = w9 at HN HQ HKP ⊢
  generalize w8.heap.size = gs at HQ ⊢
  go_wp2_with fail
  go_loopg [86] 2 (fun gk s86 wr => ∃ i : Nat, i + gk = 2 ∧ s86 = .int .i64 i ∧ Aside0 (NodeAt wr b (n.setm false mode now) ∧ wr.heap[gs]? = some (.cells (momC b) 180 (0, 0)) ∧ Kp [b] w wr))
  case atStart => exact ⟨0, by omega, rfl, ⟨HN.out, HQ.out, HKP.out⟩⟩
  case round =>
    clear HN HQ HKP
    obtain ⟨i, hi, rfl, HK⟩ := hrel
    obtain ⟨z0, z1, z2, z3, z4, z5, z6, z7⟩ := mom_cells HK.out.2.1
    cases gk with
    | zero =>
      obtain rfl : i = 2 := by omega
      go_wp2_with fail
      go_end0
      exact ⟨rfl, HK.out.1, HK.out.2.2⟩
    | succ gk =>
      have hi2 : i = 0 ∨ i = 1 := by omega
      have HI := Aside0.mk hi
      clear hi
      rcases hi2 with rfl | rfl
      all_goals
        go_wp2_with fail
        go_roundg gk
        case measure => omega
        case rel => first | exact ⟨1, by have := HI.out; omega, rfl, ⟨Lb.blk_below HK.out.1 (below_alloc (Below.refl _ _) _), Lb.blk_below HK.out.2.1 (below_alloc (Below.refl _ _) _), HK.out.2.2.trans (Kp.of (below_alloc (Below.refl _ _) _))⟩⟩ | exact ⟨2, by have := HI.out; omega, rfl, ⟨Lb.blk_below HK.out.1 (below_alloc (Below.refl _ _) _), Lb.blk_below HK.out.2.1 (below_alloc (Below.refl _ _) _), HK.out.2.2.trans (Kp.of (below_alloc (Below.refl _ _) _))⟩⟩
set_option maxRecDepth 100000 in
set_option maxHeartbeats 4000000 in
theorem set_mode (b : Nat) (n : Nd) (now mode size : Int) (w : World) (hn : NodeAt w b n) :
    Calls Tryz.prog 34 #[rootC now, .pointer (some ⟨b, 0, none⟩), setV true false mode size] w fun e w' => e = .returned (.tuple #[]) ∧ NodeAt w' b (n.setm true mode now) ∧ Kp [b] w w' := by
  have HN := Aside0.mk hn
  have HKP := Aside0.mk (Kp.refl [b] w)
  clear hn
  go_enter Tryz.func34, Tryz.ntmps34
  go_upto_region 8 with (first
    | ((with_reducible refine gate_dst (N := 3) rfl ?_); refine Lb.alloc_event ?hg (v := fun g => .pointer (some ⟨g, 0, none⟩)) (cs := #[.int .i64 0, .int .i64 0, .slice none 0 0, .int .i64 now]) (t := 29) (fr := (0, 0)) ?hr ?_; (case hg => rfl); (case hr => first | (go_simp; done) | (go_simp; rfl)); intro g3 hg3 w1 hx hb; have HX := Aside0.mk hx; replace HN := Aside0.mk (Lb.blk_below HN.out hb); replace HKP := Aside0.mk (HKP.out.trans (Kp.of hb)); clear hx hb hg3)
    | ((with_reducible refine gate_dst (N := 5) rfl ?_); refine Lb.alloc_event ?hg (v := fun g => .pointer (some ⟨g, 0, none⟩)) (cs := setC true false mode size) (t := 36) (fr := (0, 0)) ?hr ?_; (case hg => rfl); (case hr => first | (go_simp; done) | (go_simp; rfl)); intro g5 hg5 w2 hx hb; have HS := Aside0.mk hx; replace HX := Aside0.mk (Lb.blk_below HX.out hb); replace HN := Aside0.mk (Lb.blk_below HN.out hb); replace HKP := Aside0.mk (HKP.out.trans (Kp.of hb)); clear hx hb hg5; have e0 := (blk_cell HX.out 0).trans rfl; have e1 := (blk_cell HX.out 1).trans rfl; have e2 := (blk_cell HX.out 2).trans rfl; have e3 := (blk_cell HX.out 3).trans rfl; obtain ⟨s0, s1, s2, s3, s4, s7, s8, s9, s10, s11, s12, s13⟩ := set_cells HS.out)
    | ((with_reducible refine gate_store (t := 3) (p := 16) rfl ?_); refine Lb.store_one rfl rfl 3 (.tmp 16) (.tmp 13) rfl (g := b) (off := 1) (u := .int .i64 (bits12 mode)) rfl rfl rfl rfl HN.out (by kernel_rfl) (show 1 < 21 by decide) ?_; intro w3 hb hg; have hk := Kp.blk HN.out (.inr (.inl rfl)) hg; replace HS := Aside0.mk (hk.typ _ _ _ _ HS.out (by decide)); replace HX := Aside0.mk (hk.typ _ _ _ _ HX.out (by decide)); replace HKP := Aside0.mk (HKP.out.trans hk); replace HN : Aside0 (NodeAt w3 b { n with mode := bits12 mode }) := ⟨hb⟩; clear hb hg hk e0 e1 e2 e3 s0 s1 s2 s3 s4 s7 s8 s9 s10 s11 s12 s13; have e0 := (blk_cell HX.out 0).trans rfl; have e1 := (blk_cell HX.out 1).trans rfl; have e2 := (blk_cell HX.out 2).trans rfl; have e3 := (blk_cell HX.out 3).trans rfl; obtain ⟨s0, s1, s2, s3, s4, s7, s8, s9, s10, s11, s12, s13⟩ := set_cells HS.out)
    | (go_at_call 42; (with_reducible refine (time_calls now _).mono ?_); rintro e6 w6 ⟨rfl, hb⟩; replace HN := Aside0.mk (Lb.blk_below HN.out hb); replace HS := Aside0.mk (Lb.blk_below HS.out hb); replace HX := Aside0.mk (Lb.blk_below HX.out hb); replace HKP := Aside0.mk (HKP.out.trans (Kp.of hb)); clear hb e0 e1 e2 e3 s0 s1 s2 s3 s4 s7 s8 s9 s10 s11 s12 s13)
    | ((with_reducible refine gate_store (t := 34) (p := 38) rfl ?_); refine Lb.store_part rfl rfl 34 (.tmp 38) (.tmp 35) rfl (g := b) (off := 15) [.int .i64 now, .int .i64 0] rfl rfl rfl HN.out (by kernel_rfl) (show 15 + 2 ≤ 21 by decide) (by simp [Value.oneCell']) ?_; intro w7 cur' hb hc hg; obtain rfl := toList_eq (b := ndC (n.setm true mode now)) hc; have hk := Kp.blk HN.out (.inr (.inl rfl)) hg; replace HS := Aside0.mk (hk.typ _ _ _ _ HS.out (by decide)); replace HX := Aside0.mk (hk.typ _ _ _ _ HX.out (by decide)); replace HKP := Aside0.mk (HKP.out.trans hk); replace HN : Aside0 (NodeAt w7 b (n.setm true mode now)) := ⟨hb⟩; clear hb hg hk hc; have e0 := (blk_cell HX.out 0).trans rfl; have e1 := (blk_cell HX.out 1).trans rfl; have e2 := (blk_cell HX.out 2).trans rfl; have e3 := (blk_cell HX.out 3).trans rfl; obtain ⟨s0, s1, s2, s3, s4, s7, s8, s9, s10, s11, s12, s13⟩ := set_cells HS.out))
  go_quiet (fail)
  go_wp2_with fail
  replace HN := Aside0.mk (Lb.blk_below HN.out (bel_drewN _ nq))
  replace HS := Aside0.mk (Lb.blk_below HS.out (bel_drewN _ nq))
  replace HX := Aside0.mk (Lb.blk_below HX.out (bel_drewN _ nq))
  replace HKP := Aside0.mk (HKP.out.trans (Kp.of (bel_drewN _ nq)))
  clear e0 e1 e2 e3 s0 s1 s2 s3 s4 s7 s8 s9 s10 s11 s12 s13
  generalize w7.drewN nq = w8 at HN HS HX HKP ⊢
  obtain ⟨s0, s1, s2, s3, s4, s7, s8, s9, s10, s11, s12, s13⟩ := set_cells HS.out
  go_region
  have hq := draw2 w8 (momC b) 180
  have HQ := Aside0.mk hq.blk
  replace HN := Aside0.mk (Lb.blk_below HN.out hq.bel)
  replace HKP := Aside0.mk (HKP.out.trans (Kp.of hq.bel))
  clear hq s0 s1 s2 s3 s4 s7 s8 s9 s10 s11 s12 s13
  change Exit.then _ _ _ _ ((w8.alloc (.cells (momC b) 180)).drew)
  generalize (w8.alloc (.cells (momC b) 180)).drew = w9 at HN HQ HKP ⊢
  generalize w8.heap.size = gs at HQ ⊢
  go_wp2_with fail
  go_loopg [86] 2 (fun gk s86 wr => ∃ i : Nat, i + gk = 2 ∧ s86 = .int .i64 i ∧ Aside0 (NodeAt wr b (n.setm true mode now) ∧ wr.heap[gs]? = some (.cells (momC b) 180 (0, 0)) ∧ Kp [b] w wr))
  case atStart => exact ⟨0, by omega, rfl, ⟨HN.out, HQ.out, HKP.out⟩⟩
  case round =>
    clear HN HQ HKP
    obtain ⟨i, hi, rfl, HK⟩ := hrel
    obtain ⟨z0, z1, z2, z3, z4, z5, z6, z7⟩ := mom_cells HK.out.2.1
    cases gk with
    | zero =>
      obtain rfl : i = 2 := by omega
      go_wp2_with fail
      go_end0
      exact ⟨rfl, HK.out.1, HK.out.2.2⟩
    | succ gk =>
      have hi2 : i = 0 ∨ i = 1 := by omega
      have HI := Aside0.mk hi
      clear hi
      rcases hi2 with rfl | rfl
      all_goals
        go_wp2_with fail
        go_roundg gk
        case measure => omega
        case rel => first | exact ⟨1, by have := HI.out; omega, rfl, ⟨Lb.blk_below HK.out.1 (below_alloc (Below.refl _ _) _), Lb.blk_below HK.out.2.1 (below_alloc (Below.refl _ _) _), HK.out.2.2.trans (Kp.of (below_alloc (Below.refl _ _) _))⟩⟩ | exact ⟨2, by have := HI.out; omega, rfl, ⟨Lb.blk_below HK.out.1 (below_alloc (Below.refl _ _) _), Lb.blk_below HK.out.2.1 (below_alloc (Below.refl _ _) _), HK.out.2.2.trans (Kp.of (below_alloc (Below.refl _ _) _))⟩⟩
end Go.Proofs.YtlnfadlgjcnngaaGreat.Co
