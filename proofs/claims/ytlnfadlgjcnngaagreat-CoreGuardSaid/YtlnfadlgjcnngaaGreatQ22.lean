/- The walk of CoreGuard. -/
import Derived.Test.YtlnfadlgjcnngaaGreatQ21
namespace Go.Proofs.YtlnfadlgjcnngaaGreat.Co
open Go.RowKit Go.Maps Go.Lib Go.Proofs.YtlnfadlgjcnngaaGreat.Ap Go.Proofs.YtlnfadlgjcnngaaGreatW.PrintWords Go.Proofs.YtlnfadlgjcnngaaGreatW.PrintLast Go.Proofs.YtlnfadlgjcnngaaGreatW.PrintMore
set_option linter.unusedVariables false
set_option linter.unusedSimpArgs false

theorem eqAttr (d : Nat) (w : World) (k mo l u g s us ma mi fs id ta na tm nm tc nc : Int) :
    (Op.equalIn (d + 3) 40 (.agg #[.int .i64 k, .int .i64 mo, .int .i64 l, .int .i64 u, .int .i64 g, .int .i64 s, .int .i64 us, .int .i64 ma, .int .i64 mi, .int .i64 fs, .int .i64 id, .int .i64 ta, .int .i64 na, .int .i64 tm, .int .i64 nm, .int .i64 tc, .int .i64 nc])
      (.agg #[.int .i64 k, .int .i64 mo, .int .i64 l, .int .i64 u, .int .i64 g, .int .i64 s, .int .i64 us, .int .i64 ma, .int .i64 mi, .int .i64 fs, .int .i64 id, .int .i64 ta, .int .i64 na, .int .i64 tm, .int .i64 nm, .int .i64 tc, .int .i64 nc])).run Tryz.prog w = .ok true w := by
  refine eqA_of Tryz.underlying40 (by kernel_rfl) ?_
  refine eqf_end (by rfl) (by go_simp; rfl) (by go_simp; rfl) (by go_simp) ?_
  refine eqf_end (by rfl) (by go_simp; rfl) (by go_simp; rfl) (by go_simp) ?_
  refine eqf_end (by rfl) (by go_simp; rfl) (by go_simp; rfl) (by go_simp) ?_
  refine eqf_end (by rfl) (by go_simp; rfl) (by go_simp; rfl) (by go_simp) ?_
  refine eqf_end (by rfl) (by go_simp; rfl) (by go_simp; rfl) (by go_simp) ?_
  refine eqf_end (by rfl) (by go_simp; rfl) (by go_simp; rfl) (by go_simp) ?_
  refine eqf_end (by rfl) (by go_simp; rfl) (by go_simp; rfl) (by go_simp) ?_
  refine eqf_end (by rfl) (by go_simp; rfl) (by go_simp; rfl) (by go_simp) ?_
  refine eqf_end (by rfl) (by go_simp; rfl) (by go_simp; rfl) (by go_simp) ?_
  refine eqf_end (by rfl) (by go_simp; rfl) (by go_simp; rfl) (by go_simp) ?_
  refine eqf_end (by rfl) (by go_simp; rfl) (by go_simp; rfl) (by go_simp) ?_
  refine eqf_end (by rfl) (by go_simp; rfl) (by go_simp; rfl) (by rw [eqTime]; simp) ?_
  refine eqf_end (by rfl) (by go_simp; rfl) (by go_simp; rfl) (by rw [eqTime]; simp) ?_
  refine eqf_end (by rfl) (by go_simp; rfl) (by go_simp; rfl) (by rw [eqTime]; simp) ?_
  exact eqf_nil
theorem eqAttrRun (w : World) (k mo l u g s us ma mi fs id ta na tm nm tc nc : Int) :
    (binOp .eql 40 (.agg #[.int .i64 k, .int .i64 mo, .int .i64 l, .int .i64 u, .int .i64 g, .int .i64 s, .int .i64 us, .int .i64 ma, .int .i64 mi, .int .i64 fs, .int .i64 id, .int .i64 ta, .int .i64 na, .int .i64 tm, .int .i64 nm, .int .i64 tc, .int .i64 nc])
      (.agg #[.int .i64 k, .int .i64 mo, .int .i64 l, .int .i64 u, .int .i64 g, .int .i64 s, .int .i64 us, .int .i64 ma, .int .i64 mi, .int .i64 fs, .int .i64 id, .int .i64 ta, .int .i64 na, .int .i64 tm, .int .i64 nm, .int .i64 tc, .int .i64 nc])).run Tryz.prog w = .ok (.bool true) w := by
  simp only [binOp]
  simp [Op.equal, Op.maxDepth, eqAttr 9997]

theorem attr_cells {w : World} {b : Nat} {n : Nd} {v : Value} (h : w.heap[b]? = some (.cells (ndC { n with names := v }) 43 (0, 0))) : w.cell? ⟨b, 0, none⟩ = some (.int .i64 n.kind) ∧ w.cell? ⟨b, 1, none⟩ = some (.int .i64 n.mode) ∧ w.cell? ⟨b, 2, none⟩ = some (.int .i64 n.links) ∧ w.cell? ⟨b, 3, none⟩ = some (.int .i64 n.uid) ∧ w.cell? ⟨b, 4, none⟩ = some (.int .i64 n.gid) ∧ w.cell? ⟨b, 5, none⟩ = some (.int .i64 n.size) ∧ w.cell? ⟨b, 6, none⟩ = some (.int .i64 n.used) ∧ w.cell? ⟨b, 7, none⟩ = some (.int .i64 n.major) ∧ w.cell? ⟨b, 8, none⟩ = some (.int .i64 n.minor) ∧ w.cell? ⟨b, 9, none⟩ = some (.int .i64 n.fsid) ∧ w.cell? ⟨b, 10, none⟩ = some (.int .i64 n.id) ∧ w.cell? ⟨b, 11, none⟩ = some (.int .i64 n.ta) ∧ w.cell? ⟨b, 12, none⟩ = some (.int .i64 n.na) ∧ w.cell? ⟨b, 13, none⟩ = some (.int .i64 n.tm) ∧ w.cell? ⟨b, 14, none⟩ = some (.int .i64 n.nm) ∧ w.cell? ⟨b, 15, none⟩ = some (.int .i64 n.tc) ∧ w.cell? ⟨b, 16, none⟩ = some (.int .i64 n.nc) :=
  ⟨(blk_cell h 0).trans rfl, (blk_cell h 1).trans rfl, (blk_cell h 2).trans rfl, (blk_cell h 3).trans rfl, (blk_cell h 4).trans rfl, (blk_cell h 5).trans rfl, (blk_cell h 6).trans rfl, (blk_cell h 7).trans rfl, (blk_cell h 8).trans rfl, (blk_cell h 9).trans rfl, (blk_cell h 10).trans rfl, (blk_cell h 11).trans rfl, (blk_cell h 12).trans rfl, (blk_cell h 13).trans rfl, (blk_cell h 14).trans rfl, (blk_cell h 15).trans rfl, (blk_cell h 16).trans rfl⟩
/-- the new file -/
abbrev nf (now : Int) : Nd := Nd.born { nd0 with kind := 1, mode := 420, verf := ⟨#[]⟩ } (1 + 1) now
set_option maxRecDepth 100000 in
set_option maxHeartbeats 8000000 in
theorem guard_calls (now S N mode : Int) (w : World) : Calls Tryz.prog 4 #[.int .i64 now, .agg #[.int .i64 S, .int .i64 N], .int .i64 mode] w fun e w' => e = .returned (.bool true) ∧ Below w.heap.size w w' := by
  have HB := Aside0.mk (Below.refl w.heap.size w)
  go_enter Tryz.func4, Tryz.ntmps4
  go_upto_region 3 with (first
    | ((with_reducible refine gate_dst (N := 4) rfl ?_); refine Lb.alloc_event ?hg (v := fun g => .pointer (some ⟨g, 0, none⟩)) (cs := #[.int .i64 S, .int .i64 N]) (t := 38) (fr := (0, 0)) ?hr ?_; (case hg => rfl); (case hr => first | (go_simp; done) | (go_simp; rfl)); intro g4 hg4 w1 hx hb; have HX := Aside0.mk hx; replace HB := Aside0.mk (below_step HB.out hb); clear hx hb hg4)
    | (go_at_call 8; refine (speaks_calls _).mono ?_; rintro e w2 ⟨rfl, hb⟩; replace HX := Aside0.mk (Lb.blk_below HX.out hb); replace HB := Aside0.mk (below_step HB.out hb); clear hb))
  have c0 : w2.cell? ⟨g4, 0, none⟩ = some (.int .i64 S) := (blk_cell HX.out 0).trans rfl
  have c1 : w2.cell? ⟨g4, 1, none⟩ = some (.int .i64 N) := (blk_cell HX.out 1).trans rfl
  go_region
  all_goals
    replace HB := Aside0.mk (below_step HB.out (Lb.below_drew _))
    clear c0 c1 HX
    go_upto_region 6 with (first
      | (go_at_call 9; refine (new_calls now _).mono ?_; rintro e w3 ⟨g, bN, bM, b, d, rfl, hf, hn, hd, hl, hb⟩; have HF := Aside0.mk hf; have HN := Aside0.mk hn; have HD := Aside0.mk hd; have HL : Aside0 (w.heap.size ≤ g ∧ w.heap.size ≤ bN ∧ w.heap.size ≤ bM ∧ w.heap.size ≤ b ∧ w.heap.size ≤ d) := ⟨by have := HB.out.size; omega⟩; replace HB := Aside0.mk (below_step HB.out hb); clear hf hn hd hl hb)
      | ((with_reducible refine gate_dst (N := 10) rfl ?_); refine box_event ?hg (N := 10) ?hd (cs := callC 0) (t := 29) ?hr ?_; (case hd => rfl); (case hg => rfl); (case hr => first | (go_simp; done) | (go_simp; rfl)); intro g10 hgg10 w4 hx hb; have HE := Aside0.mk hx; have HBE := Aside0.mk hb; have HGE := Aside0.mk hgg10; clear hx hb hgg10)
      | ((with_reducible refine gate_store (t := 29) (p := 10) rfl ?_); refine Lb.store_whole rfl rfl 29 (.tmp 10) (.tmp 28) rfl (new := callC now) rfl rfl HE.out rfl (by kernel_rfl) (by simp [Value.oneCell']) ?_; intro w5 hb3 hg3; have hbb := Lb.grown_below HBE.out hg3 HBE.out.size (by have := HGE.out; omega); replace HF := Aside0.mk (HF.out.step hbb); replace HN := Aside0.mk (Lb.blk_below HN.out hbb); replace HD := Aside0.mk (show DirE w5 d from Lb.blk_below HD.out hbb); replace HB := Aside0.mk (below_step HB.out hbb); have HX := Aside0.mk hb3; clear hb3 hg3 HE HBE HGE hbb))
    go_upto_region 7 with (first
      | ((with_reducible refine gate_dst (N := 31) rfl ?_); refine wpList_load_row rfl 29 (.tmp 10) rfl g10 rfl 29 (callC now) (0, 0) _ HX.out Tryz.underlying29 rfl (by kernel_rfl) ?_)
      | (go_at_call 10; (refine (create_zero g bN bM 1 _ 2 b d (nd1 now d) now 1 ⟨#[102]⟩ ⟨#[]⟩ _ HF.out (by decide) (by decide) (by decide) ⟨by decide, by decide⟩ (show putF (fun _ => none) 1 b 1 = some b from rfl) HN.out HD.out rfl rfl (show InI 1 from ⟨by decide, by decide⟩) good_f).mono ?_); rintro e w6 ⟨rfl, b2, l2, r2, r3, r4, r5, r6⟩; have HF6 : Aside0 (FsAt w6 g bN bM 2 (putF (putF (fun _ => none) 1 b) 2 b2) 6) := ⟨r2⟩; have HN6 : Aside0 (NodeAt w6 b2 (nf now)) := ⟨r5⟩; have HX6 := Aside0.mk (r6.typ _ _ _ _ HX.out (by decide)); have HB6 := Aside0.mk (HB.out.trans (r6.below (by have := HL.out; simp; omega) HB.out.size)); have HL2 : Aside0 (w.heap.size ≤ b2) := ⟨Nat.le_trans HB.out.size l2⟩; clear r2 r3 r4 r5 r6 l2 HF HN HD HX HB))
    go_upto_region 9 with (first
      | (go_at_call 11; (refine (node_calls g bN bM 2 _ 6 b2 _ 2 _ HF6.out ⟨by decide, by decide⟩ (show putF (putF (fun _ => none) 1 b) 2 b2 2 = some b2 from rfl) HN6.out (.inl rfl)).mono ?_); rintro e w7 ⟨⟨k7, rfl⟩, hb⟩; have HF7 := Aside0.mk (HF6.out.step hb); have HN7 := Aside0.mk (Lb.blk_below HN6.out hb); have HX7 := Aside0.mk (Lb.blk_below HX6.out hb); have HB7 := Aside0.mk (below_step HB6.out hb); clear hb HF6 HN6 HX6 HB6)
      | ((with_reducible refine gate_dst (N := 13) rfl ?_); refine box_event ?hg (N := 13) ?hd (cs := ndC nd0) (t := 43) ?hr ?_; (case hd => rfl); (case hg => rfl); (case hr => first | (go_simp; done) | (go_simp; rfl)); intro g13 hgg13 w8 hx hb; have HE := Aside0.mk hx; have HBE := Aside0.mk hb; have HGE := Aside0.mk hgg13; clear hx hb hgg13)
      | ((with_reducible refine gate_store (t := 43) (p := 13) rfl ?_); refine Lb.store_whole rfl rfl 43 (.tmp 13) (.tmp 40) rfl (new := ndC { nf now with names := .pointer k7 }) rfl rfl HE.out rfl (by kernel_rfl) (ndC_one _ k7 rfl) ?_; intro w9 hb3 hg3; have hbb := Lb.grown_below HBE.out hg3 HBE.out.size (by have := HGE.out; omega); have HNE : Aside0 (g13 ≠ b2) := ⟨by have := HGE.out; have := blk_lt HN7.out; omega⟩; have HF9 := Aside0.mk (HF7.out.step hbb); have HN9 := Aside0.mk (Lb.blk_below HN7.out hbb); have HX9 := Aside0.mk (Lb.blk_below HX7.out hbb); have HB9 := Aside0.mk (below_step HB7.out hbb); have HA9 := Aside0.mk hb3; clear HF7 HN7 HX7 HB7; clear hb3 hg3 HE HBE HGE hbb)
      | ((with_reducible refine gate_dst (N := 15) rfl ?_); refine box_event ?hg (N := 15) ?hd (cs := #[.int .i64 0, .int .i64 0]) (t := 34) ?hr ?_; (case hd => rfl); (case hg => rfl); (case hr => first | (go_simp; done) | (go_simp; rfl)); intro g15 hgg15 w10 hx hb; have HE := Aside0.mk hx; have HBE := Aside0.mk hb; have HGE := Aside0.mk hgg15; clear hx hb hgg15)
      | ((with_reducible refine gate_store (t := 34) (p := 15) rfl ?_); refine Lb.store_whole rfl rfl 34 (.tmp 15) (.tmp 44) rfl (new := #[.int .i64 S, .int .i64 N]) rfl rfl HE.out rfl (by kernel_rfl) (by simp [Value.oneCell']) ?_; intro w11 hb3 hg3; have hbb := Lb.grown_below HBE.out hg3 HBE.out.size (by have := HGE.out; omega); have HF11 := Aside0.mk (HF9.out.step hbb); have HN11 := Aside0.mk (Lb.blk_below HN9.out hbb); have HX11 := Aside0.mk (Lb.blk_below HX9.out hbb); have HB11 := Aside0.mk (below_step HB9.out hbb); have HA11 := Aside0.mk (Lb.blk_below HA9.out hbb); have HT11 := Aside0.mk hb3; clear HF9 HN9 HX9 HB9 HA9; clear hb3 hg3 HE HBE HGE hbb))
    obtain ⟨q, hq⟩ : ∃ q, (S == now && (N == 0)) = q := ⟨_, rfl⟩
    have hne := neTime
    cases q
    · have HQ : Aside0 ((S == (nf now).tc && (N == (nf now).nc)) = false) := ⟨hq⟩
      have HQ2 := Lib.hid hq
      clear hq
      go_upto_region 11 with (first
      | ((with_reducible refine gate_dst (N := 46) rfl ?_); refine wpList_load_row rfl 29 (.tmp 10) rfl g10 rfl 29 (callC now) (0, 0) _ HX11.out Tryz.underlying29 rfl (by kernel_rfl) ?_)
      | ((with_reducible refine gate_dst (N := 50) rfl ?_); refine wpList_load_row rfl 34 (.tmp 15) rfl g15 rfl 34 (#[.int .i64 S, .int .i64 N]) (0, 0) _ HT11.out Tryz.underlying34 rfl (by kernel_rfl) ?_)
      | ((with_reducible refine gate_dst (N := 51) rfl ?_); refine Lb.alloc_event ?hg (v := fun g => .slice (some ⟨g, 0, none⟩) 1 1) (cs := #[.int .i64 S, .int .i64 N]) (t := 34) (fr := (0, 0)) ?hr ?_; (case hg => rfl); (case hr => first | (go_simp; done) | (go_simp; rfl)); intro g51 hg51 w12 hx hb; have HS12 := Aside0.mk hx; have HF12 := Aside0.mk (HF11.out.step hb); have HN12 := Aside0.mk (Lb.blk_below HN11.out hb); have HB12 := Aside0.mk (below_step HB11.out hb); have HA12 := Aside0.mk (Lb.blk_below HA11.out hb); have HT12 := Aside0.mk (Lb.blk_below HT11.out hb); clear hx hb hg51 HF11 HN11 HX11 HB11 HA11 HT11)
      | (go_at_call 12; (refine (setattr_calls g bN bM 2 _ 6 b2 g51 (nf now) now 2 mode S N _ HF12.out (by decide) ⟨by decide, by decide⟩ (show putF (putF (fun _ => none) 1 b) 2 b2 2 = some b2 from rfl) HN12.out HS12.out false HQ.out).mono ?_); rintro e w13 ⟨hA, hC⟩; obtain ⟨rfl, hb⟩ := hA rfl; clear hA hC; have HF13 := Aside0.mk (HF12.out.step hb); have HN13 := Aside0.mk (Lb.blk_below HN12.out hb); have HB13 := Aside0.mk (below_step HB12.out hb); have HA13 := Aside0.mk (Lb.blk_below HA12.out hb); have HT13 := Aside0.mk (Lb.blk_below HT12.out hb); clear hb HS12 HF12 HN12 HB12 HA12 HT12)
      | (go_at_call 11; (refine (node_calls g bN bM 2 _ 6 b2 (nf now) 2 _ HF13.out ⟨by decide, by decide⟩ (show putF (putF (fun _ => none) 1 b) 2 b2 2 = some b2 from rfl) HN13.out (.inl rfl)).mono ?_); rintro e w14 ⟨⟨k14, rfl⟩, hb⟩; have HB14 := Aside0.mk (below_step HB13.out hb); have HA14 := Aside0.mk (Lb.blk_below HA13.out hb); have HT14 := Aside0.mk (Lb.blk_below HT13.out hb); clear hb HF13 HN13 HB13 HA13 HT13)
      | ((with_reducible refine gate_dst (N := 17) rfl ?_); refine box_event ?hg (N := 17) ?hd (cs := ndC nd0) (t := 43) ?hr ?_; (case hd => rfl); (case hg => rfl); (case hr => first | (go_simp; done) | (go_simp; rfl)); intro g17 hgg17 w15 hx hb; have HE := Aside0.mk hx; have HBE := Aside0.mk hb; have HGE := Aside0.mk hgg17; clear hx hb hgg17)
      | ((with_reducible refine gate_store (t := 43) (p := 17) rfl ?_); refine Lb.store_whole rfl rfl 43 (.tmp 17) (.tmp 57) rfl (new := ndC { nf now with names := .pointer k14 }) rfl rfl HE.out rfl (by kernel_rfl) (ndC_one _ k14 rfl) ?_; intro w16 hb3 hg3; have hbb := Lb.grown_below HBE.out hg3 HBE.out.size (by have := HGE.out; omega); have HB16 := Aside0.mk (below_step HB14.out hbb); have HA16 := Aside0.mk (Lb.blk_below HA14.out hbb); have HT16 := Aside0.mk (Lb.blk_below HT14.out hbb); have HI16 := Aside0.mk hb3; clear HB14 HA14 HT14; clear hb3 hg3 HE HBE HGE hbb))
      have t0 : w16.cell? ⟨g15, 0, none⟩ = some (.int .i64 S) := (blk_cell HT16.out 0).trans rfl
      have t1 : w16.cell? ⟨g15, 1, none⟩ = some (.int .i64 N) := (blk_cell HT16.out 1).trans rfl
      have n15 : w16.cell? ⟨g13, 15, none⟩ = some (.int .i64 now) := (blk_cell HA16.out 15).trans rfl
      have n16 : w16.cell? ⟨g13, 16, none⟩ = some (.int .i64 0) := (blk_cell HA16.out 16).trans rfl
      have hq := HQ2.out
      go_upto_region 12 with fail
      clear t0 t1 n15 n16 hq hne
      have hee := eqAttrRun
      obtain ⟨nn, hnn⟩ : ∃ nn, nn = nf now := ⟨_, rfl⟩
      rw [← hnn] at HA16 HI16
      obtain ⟨d0, d1, d2, d3, d4, d5, d6, d7, d8, d9, d10, d11, d12, d13, d14, d15, d16⟩ := attr_cells HA16.out
      obtain ⟨f0, f1, f2, f3, f4, f5, f6, f7, f8, f9, f10, f11, f12, f13, f14, f15, f16⟩ := attr_cells HI16.out
      clear hnn
      go_wp2_with fail
      go_ret
      exact ⟨rfl, HB16.out⟩
    · have HQ : Aside0 ((S == (nf now).tc && (N == (nf now).nc)) = true) := ⟨hq⟩
      have HQ2 := Lib.hid hq
      clear hq
      go_upto_region 11 with (first
      | ((with_reducible refine gate_dst (N := 46) rfl ?_); refine wpList_load_row rfl 29 (.tmp 10) rfl g10 rfl 29 (callC now) (0, 0) _ HX11.out Tryz.underlying29 rfl (by kernel_rfl) ?_)
      | ((with_reducible refine gate_dst (N := 50) rfl ?_); refine wpList_load_row rfl 34 (.tmp 15) rfl g15 rfl 34 (#[.int .i64 S, .int .i64 N]) (0, 0) _ HT11.out Tryz.underlying34 rfl (by kernel_rfl) ?_)
      | ((with_reducible refine gate_dst (N := 51) rfl ?_); refine Lb.alloc_event ?hg (v := fun g => .slice (some ⟨g, 0, none⟩) 1 1) (cs := #[.int .i64 S, .int .i64 N]) (t := 34) (fr := (0, 0)) ?hr ?_; (case hg => rfl); (case hr => first | (go_simp; done) | (go_simp; rfl)); intro g51 hg51 w12 hx hb; have HS12 := Aside0.mk hx; have HF12 := Aside0.mk (HF11.out.step hb); have HN12 := Aside0.mk (Lb.blk_below HN11.out hb); have HB12 := Aside0.mk (below_step HB11.out hb); have HA12 := Aside0.mk (Lb.blk_below HA11.out hb); have HT12 := Aside0.mk (Lb.blk_below HT11.out hb); clear hx hb hg51 HF11 HN11 HX11 HB11 HA11 HT11)
      | (go_at_call 12; (refine (setattr_calls g bN bM 2 _ 6 b2 g51 (nf now) now 2 mode S N _ HF12.out (by decide) ⟨by decide, by decide⟩ (show putF (putF (fun _ => none) 1 b) 2 b2 2 = some b2 from rfl) HN12.out HS12.out true HQ.out).mono ?_); rintro e w13 ⟨hA, hC⟩; obtain ⟨rfl, hn, hf, hk⟩ := hC rfl; clear hA hC; have HF13 := Aside0.mk hf; have HN13 : Aside0 (NodeAt w13 b2 ((nf now).setm true mode now)) := ⟨hn⟩; have HB13 := Aside0.mk (HB12.out.trans (hk.below (by have := HL.out; have := HL2.out; simp; omega) HB12.out.size)); have HA13 := Aside0.mk (hk.keep _ _ HA12.out (by have h2 := (HF12.out.neN HA12.out).2; have := HNE.out; simp; exact ⟨fun e => h2 e.symm, this⟩)); have HT13 := Aside0.mk (hk.typ _ _ _ _ HT12.out (by decide)); clear hn hf hk HS12 HF12 HN12 HB12 HA12 HT12)
      | (go_at_call 11; (refine (node_calls g bN bM 2 _ (6 + 1) b2 ((nf now).setm true mode now) 2 _ HF13.out ⟨by decide, by decide⟩ (show putF (putF (fun _ => none) 1 b) 2 b2 2 = some b2 from rfl) HN13.out (.inl rfl)).mono ?_); rintro e w14 ⟨⟨k14, rfl⟩, hb⟩; have HB14 := Aside0.mk (below_step HB13.out hb); have HA14 := Aside0.mk (Lb.blk_below HA13.out hb); have HT14 := Aside0.mk (Lb.blk_below HT13.out hb); clear hb HF13 HN13 HB13 HA13 HT13)
      | ((with_reducible refine gate_dst (N := 17) rfl ?_); refine box_event ?hg (N := 17) ?hd (cs := ndC nd0) (t := 43) ?hr ?_; (case hd => rfl); (case hg => rfl); (case hr => first | (go_simp; done) | (go_simp; rfl)); intro g17 hgg17 w15 hx hb; have HE := Aside0.mk hx; have HBE := Aside0.mk hb; have HGE := Aside0.mk hgg17; clear hx hb hgg17)
      | ((with_reducible refine gate_store (t := 43) (p := 17) rfl ?_); refine Lb.store_whole rfl rfl 43 (.tmp 17) (.tmp 57) rfl (new := ndC { (nf now).setm true mode now with names := .pointer k14 }) rfl rfl HE.out rfl (by kernel_rfl) (ndC_one _ k14 rfl) ?_; intro w16 hb3 hg3; have hbb := Lb.grown_below HBE.out hg3 HBE.out.size (by have := HGE.out; omega); have HB16 := Aside0.mk (below_step HB14.out hbb); have HA16 := Aside0.mk (Lb.blk_below HA14.out hbb); have HT16 := Aside0.mk (Lb.blk_below HT14.out hbb); have HI16 := Aside0.mk hb3; clear HB14 HA14 HT14; clear hb3 hg3 HE HBE HGE hbb))
      have t0 : w16.cell? ⟨g15, 0, none⟩ = some (.int .i64 S) := (blk_cell HT16.out 0).trans rfl
      have t1 : w16.cell? ⟨g15, 1, none⟩ = some (.int .i64 N) := (blk_cell HT16.out 1).trans rfl
      have n15 : w16.cell? ⟨g13, 15, none⟩ = some (.int .i64 now) := (blk_cell HA16.out 15).trans rfl
      have n16 : w16.cell? ⟨g13, 16, none⟩ = some (.int .i64 0) := (blk_cell HA16.out 16).trans rfl
      have hq := HQ2.out
      have m1 : w16.cell? ⟨g17, 1, none⟩ = some (.int .i64 (Go.bits .and .i64 mode 4095)) := (blk_cell HI16.out 1).trans rfl
      go_wp2_with fail
      go_ret
      exact ⟨rfl, HB16.out⟩
end Go.Proofs.YtlnfadlgjcnngaaGreat.Co
