/- speaks of layer 13. -/
import Derived.Test.YtlnfadlgjcnngaaGreatQ18
namespace Go.Proofs.YtlnfadlgjcnngaaGreat.Co
open Go.RowKit Go.Maps Go.Lib Go.Proofs.YtlnfadlgjcnngaaGreat.Ap Go.Proofs.YtlnfadlgjcnngaaGreatW.PrintWords Go.Proofs.YtlnfadlgjcnngaaGreatW.PrintLast Go.Proofs.YtlnfadlgjcnngaaGreatW.PrintMore
set_option linter.unusedVariables false
set_option linter.unusedSimpArgs false

theorem good_a : Good ⟨#[97]⟩ := Good.ascii (by decide) (by rw [ByteArray.toList_eq]; decide) (by rw [ByteArray.toList_eq]; decide) (by rw [ByteArray.toList_eq]; decide) (fun j b h => by
  have : b = 97 := by cases j <;> simp at h; exact h.symm
  subst this; decide) (by decide)
theorem good_f : Good ⟨#[102]⟩ := Good.ascii (by decide) (by rw [ByteArray.toList_eq]; decide) (by rw [ByteArray.toList_eq]; decide) (by rw [ByteArray.toList_eq]; decide) (fun j b h => by
  have : b = 102 := by cases j <;> simp at h; exact h.symm
  subst this; decide) (by decide)

set_option maxRecDepth 100000 in
set_option maxHeartbeats 4000000 in
theorem speaks_calls (w : World) : Calls Tryz.prog 8 #[] w fun e w' => e = .returned (.bool true) ∧ Below w.heap.size w w' := by
  go_enter Tryz.func8, Tryz.ntmps8
  go_upto_region 3 with (first
    | (go_at_call 9; refine (new_calls 5 _).mono ?_; rintro e w1 ⟨g, bN, bM, b, d, rfl, hf, hn, hd, hl, hb⟩; have HF := Aside0.mk hf; have HN := Aside0.mk hn; have HD := Aside0.mk hd; have HL := Aside0.mk hl; have HB := Aside0.mk hb; clear hf hn hd hl hb)
    | ((with_reducible refine gate_dst (N := 2) rfl ?_); refine box_event ?hg (N := 2) ?hd (cs := callC 0) (t := 29) ?hr ?_; (case hd => rfl); (case hg => rfl); (case hr => first | (go_simp; done) | (go_simp; rfl)); intro g2 hg2 w2 hx hb; have HE := Aside0.mk hx; have HBE := Aside0.mk hb; have HGE := Aside0.mk hg2; clear hx hb hg2)
    | ((with_reducible refine gate_store (t := 29) (p := 2) rfl ?_); refine Lb.store_whole rfl rfl 29 (.tmp 2) (.tmp 10) rfl (new := callC 6) rfl rfl HE.out rfl (by kernel_rfl) (by simp [Value.oneCell']) ?_; intro w3 hb3 hg3; have hbb := Lb.grown_below HBE.out hg3 HBE.out.size (by have := HGE.out; omega); replace HF := Aside0.mk (HF.out.step hbb); replace HN := Aside0.mk (Lb.blk_below HN.out hbb); replace HD := Aside0.mk (show DirE w3 d from Lb.blk_below HD.out hbb); replace HB := Aside0.mk (below_step HB.out hbb); have HX := Aside0.mk hb3; clear hb3 hg3 HE HBE HGE hbb))
  have HLT : Aside0 (b < w3.heap.size ∧ d < w3.heap.size) := ⟨blk_lt HN.out, blk_lt HD.out⟩
  go_upto_region 4 with (first
    | ((with_reducible refine gate_dst (N := 13) rfl ?_); refine wpList_load_row rfl 29 (.tmp 2) rfl g2 rfl 29 (callC 6) (0, 0) _ HX.out Tryz.underlying29 rfl (by kernel_rfl) ?_)
    | (go_at_call 29; (refine (make_dir g bN bM 1 _ 2 b d (nd1 5 d) 6 1 ⟨#[97]⟩ _ HF.out (by decide) (by decide) (by decide) ⟨by decide, by decide⟩ (show putF (fun _ => none) 1 b 1 = some b from rfl) HN.out HD.out rfl rfl (show InI 1 from ⟨by decide, by decide⟩) good_a (show (0 : Int) ≤ 2 by decide) (show (2 : Int) ≤ 1000 by decide)).mono ?_); rintro e w4 ⟨rfl, g10, gd, l10, lgd, r2, r3, r4, r5, r6, r7⟩; have HF4 : Aside0 (FsAt w4 g bN bM 2 (putF (putF (fun _ => none) 1 b) 2 g10) 6) := ⟨r2⟩; have HP4 := Aside0.mk r3; have HO4 := Aside0.mk r4; have HN4 := Aside0.mk r5; have HD4 := Aside0.mk r6; have HK4 := Aside0.mk r7; have HX4 := Aside0.mk (r7.typ _ _ _ _ HX.out (by decide)); have HL4 := Aside0.mk (And.intro l10 lgd); clear r2 r3 r4 r5 r6 r7 l10 lgd HF HN HD HX))
  go_upto_region 5 with (first
    | ((with_reducible refine gate_dst (N := 20) rfl ?_); refine wpList_load_row rfl 29 (.tmp 2) rfl g2 rfl 29 (callC 6) (0, 0) _ HX4.out Tryz.underlying29 rfl (by kernel_rfl) ?_)
    | (go_at_call 10; go_loud ((refine (create_zero g bN bM 2 _ 6 g10 gd _ 6 2 ⟨#[102]⟩ ⟨#[]⟩ _ HF4.out (by decide) (by decide) (by decide) ⟨by decide, by decide⟩ (show putF (putF (fun _ => none) 1 b) 2 g10 2 = some g10 from rfl) HN4.out HD4.out rfl rfl (show InI 2 from ⟨by decide, by decide⟩) good_f).mono ?_); rintro e w5 ⟨rfl, g11, l11, r2, r3, r4, r5, r6⟩; have HF5 : Aside0 (FsAt w5 g bN bM 3 (putF (putF (putF (fun _ => none) 1 b) 2 g10) 3 g11) 10) := ⟨r2⟩; have HP5 := Aside0.mk (r6.keep _ _ HP4.out (by have h1 := HF4.out.neN HP4.out; have h2 := ne_type HP4.out HF4.out.blk (by decide); have h3 := ne_type HP4.out HD4.out (by decide); have := HL4.out.1; have := HLT.out.1; simp; exact ⟨h2, fun e => h1.1 e.symm, fun e => h1.2 e.symm, by omega, h3⟩)); have HO5 := Aside0.mk (HO4.out.keep r6 (by obtain ⟨cs, hd⟩ := HO4.out.blk; have h1 := HF4.out.neN hd; have h2 := ne_type hd HF4.out.blk (by decide); have h3 := ne_type hd HN4.out (by decide); have := HL4.out.2; have := HLT.out.2; simp; exact ⟨h2, fun e => h1.1 e.symm, fun e => h1.2 e.symm, h3, by omega⟩)); have HK5 := Aside0.mk r6; clear r2 r3 r4 r5 r6 l11 HF4 HP4 HO4 HN4 HD4 HX4)))
  go_upto_region 6 with (first
    | (go_at_call 11; go_loud ((refine (node_calls g bN bM 3 _ 10 b _ 1 _ HF5.out ⟨by decide, by decide⟩ (show putF (putF (putF (fun _ => none) 1 b) 2 g10) 3 g11 1 = some b from rfl) HP5.out (.inr ⟨d, _, _, rfl, HO5.out⟩)).mono ?_); rintro e w6 ⟨⟨k6, rfl⟩, hb6⟩; have HB6 := Aside0.mk hb6; clear hb6))
    | ((with_reducible refine gate_dst (N := 7) rfl ?_); refine box_event ?hg (N := 7) ?hd (cs := ndC nd0) (t := 43) ?hr ?_; (case hd => rfl); (case hg => rfl); (case hr => first | (go_simp; done) | (go_simp; rfl)); intro g7 hg7 w7 hx hb; have HE := Aside0.mk hx; have HBE := Aside0.mk hb; have HGE := Aside0.mk hg7; clear hx hb hg7)
    | ((with_reducible refine gate_store (t := 43) (p := 7) rfl ?_); refine Lb.store_whole rfl rfl 43 (.tmp 7) (.tmp 29) rfl (new := ndC { Nd.chg { nd1 5 d with links := (nd1 5 d).links + 1 } 6 with names := .pointer k6 }) rfl rfl HE.out rfl (by kernel_rfl) (ndC_one _ k6 rfl) ?_; intro w8 hb8 hg8; have HB8 := Aside0.mk (Lb.grown_below HBE.out hg8 HBE.out.size (by have := HGE.out; omega)); have HX8 := Aside0.mk hb8; clear hb8 hg8 HE HBE HGE))
  have a2 : w8.cell? ⟨g7, 2, none⟩ = some (.int .i64 3) := (blk_cell HX8.out 2).trans rfl
  have a5 : w8.cell? ⟨g7, 5, none⟩ = some (.int .i64 1) := (blk_cell HX8.out 5).trans rfl
  go_wp2_with fail
  go_ret
  refine ⟨rfl, ?_⟩
  have q4 : Below w.heap.size w w4 := HB.out.trans (HK4.out.below (by have := HL.out; simp; omega) HB.out.size)
  have q5 : Below w.heap.size w w5 := q4.trans (HK5.out.below (by have := HL.out; have := HL4.out; have := HB.out.size; simp; omega) q4.size)
  exact below_step (below_step q5 HB6.out) HB8.out
end Go.Proofs.YtlnfadlgjcnngaaGreat.Co
