/- Make: a directory in an empty directory. -/
import Derived.Test.YtlnfadlgjcnngaaGreatQ15
import Derived.Test.YtlnfadlgjcnngaaGreatQ16
namespace Go.Proofs.YtlnfadlgjcnngaaGreat.Co
open Go.RowKit Go.Maps Go.Lib Go.Proofs.YtlnfadlgjcnngaaGreat.Ap Go.Proofs.YtlnfadlgjcnngaaGreatW.PrintWords Go.Proofs.YtlnfadlgjcnngaaGreatW.PrintLast Go.Proofs.YtlnfadlgjcnngaaGreatW.PrintMore
set_option linter.unusedVariables false
set_option linter.unusedSimpArgs false

theorem fld1 (n : Nd) (x : Int) : (ndC n).setIfInBounds 1 (.int .i64 x) = ndC { n with mode := x } := rfl
set_option maxRecDepth 100000 in
set_option maxHeartbeats 4000000 in
theorem make_dir (g bN bM : Nat) (last : Int) (F : Int → Option Nat) (m b d : Nat) (p : Nd) (now i : Int) (s : ByteArray) (w : World) (h : FsAt w g bN bM last F m) (hm : m ≤ 800000) (hl0 : 0 ≤ last) (hl : last ≤ 1000000) (hi : InI i) (hF : F i = some b) (hp : NodeAt w b p) (hd : DirE w d) (hpk : p.kind = 2) (hpn : p.names = .pointer (some ⟨d, 0, none⟩)) (hpi : InI p.id) (hs : Good s) (hp0 : 0 ≤ p.links) (hp1 : p.links ≤ 1000) :
    Calls Tryz.prog 29 #[.pointer (some ⟨g, 0, none⟩), rootC now, .int .i64 i, .string s, .int .i64 2, setV false false 0 0, .string ⟨#[]⟩, .int .i64 0, .int .i64 0] w fun e w' => e = .returned (.tuple #[.int .i64 (last + 1), .int .i64 0]) ∧ ∃ g10 gd, w.heap.size ≤ g10 ∧ w.heap.size ≤ gd ∧ FsAt w' g bN bM (last + 1) (putF F (last + 1) g10) (m + 4) ∧ NodeAt w' b (Nd.chg { p with links := p.links + 1 } now) ∧ DirO w' d s (last + 1) ∧ NodeAt w' g10 { Nd.born { nd0 with kind := 2, mode := 493 } (last + 1) now with links := 2, parent := p.id, names := .pointer (some ⟨gd, 0, none⟩) } ∧ DirE w' gd ∧ Kp [g, bN, bM, b, d] w w' := by
  have HM := Aside0.mk hm
  have HL := Aside0.mk (And.intro hl0 hl)
  have H := Aside0.mk h
  have HI := Aside0.mk (And.intro hi hF)
  have HP := Aside0.mk hp
  have HD := Aside0.mk hd
  have HPN := Aside0.mk hpn
  have HPK := Aside0.mk hpk
  have HPI := Aside0.mk hpi
  have HPL := Aside0.mk (And.intro hp0 hp1)
  have HS := Aside0.mk hs
  have HB := Aside0.mk (Below.refl w.heap.size w)
  have HLT : Aside0 (b < w.heap.size) := ⟨blk_lt hp⟩
  clear h hm hp hd hpn hpi hs hpk hi hF hl0 hl hp0 hp1
  go_enter Tryz.func29, Tryz.ntmps29
  go_upto_region 4 with (first
    | ((with_reducible refine gate_dst (N := 10) rfl ?_); refine Lb.alloc_event ?hg (v := fun g => .pointer (some ⟨g, 0, none⟩)) (cs := callC now) (t := 29) (fr := (0, 0)) ?hr ?_; (case hg => rfl); (case hr => first | (go_simp; done) | (go_simp; rfl)); intro g8 hg8 w1 hx hb; have HX := Aside0.mk hx; replace H := Aside0.mk (H.out.step hb); replace HP := Aside0.mk (Lb.blk_below HP.out hb); replace HD := Aside0.mk (Lb.blk_below HD.out hb); replace HB := Aside0.mk (below_step HB.out hb); clear hx hb hg8)
    | ((with_reducible refine gate_dst (N := 14) rfl ?_); refine Lb.alloc_event ?hg (v := fun g => .pointer (some ⟨g, 0, none⟩)) (cs := setC false false 0 0) (t := 36) (fr := (0, 0)) ?hr ?_; (case hg => rfl); (case hr => first | (go_simp; done) | (go_simp; rfl)); intro g12 hg12 w2 hx hb; have HC : Aside0 (CR w w2 g bN bM last F m b d p g8 g12 now) := ⟨⟨H.out.step hb, Lb.blk_below HP.out hb, Lb.blk_below HD.out hb, Lb.blk_below HX.out hb, hx, below_step HB.out hb, by have := HB.out.size; omega⟩⟩; clear H HP HD HX HB hx hb hg12)
    | ((with_reducible refine gate_dst (N := 27) rfl ?_); refine wpList_load_row rfl 29 (.tmp 10) rfl g8 rfl 29 (callC now) (0, 0) _ HC.out.cl Tryz.underlying29 rfl (by kernel_rfl) ?_)
    | (go_at_call 31; (with_reducible refine (spot_calls g bN bM last F m b p now i s _ HC.out.fs HI.out.1 HI.out.2 HC.out.par HPK.out HS.out).mono ?_); rintro e w4 ⟨rfl, hb⟩; replace HC := Aside0.mk (HC.out.step hb); clear hb))
  have p20 := (blk_cell HC.out.par 20).trans (show (ndC p)[20]? = some p.names from rfl)
  rw [HPN.out] at p20
  go_upto_region 8 with (first
    | (go_at_call 32; (with_reducible refine (get_empty d s _ HC.out.dir).mono ?_); rintro e w5 ⟨rfl, hb⟩; replace HC := Aside0.mk (HC.out.step hb); clear hb p20)
    | ((with_reducible refine gate_dst (N := 22) rfl ?_); refine box_event ?hg (N := 22) ?hd (cs := #[.string ⟨#[]⟩, .int .i64 0, .int .i64 0]) (t := 108) ?hr ?_; (case hd => rfl); (case hg => rfl); (case hr => first | (go_simp; done) | (go_simp; rfl)); intro g18 hg18 w6 hx hb; have HE := Aside0.mk hx; have HBE := Aside0.mk hb; have HGE := Aside0.mk hg18; have HCE := HC; clear HC; clear hx hb hg18)
    | ((with_reducible refine gate_store (t := 108) (p := 22) rfl ?_); refine Lb.store_whole rfl rfl 108 (.tmp 22) (.tmp 43) rfl (new := #[.string ⟨#[]⟩, .int .i64 0, .int .i64 0]) rfl rfl HE.out rfl (by kernel_rfl) (by simp [Value.oneCell']) ?_; intro w7 hb7 hg7; have HC := Aside0.mk (HCE.out.step (Lb.grown_below HBE.out hg7 HBE.out.size (by have := HGE.out; omega))); clear hb7 hg7 HE HBE HGE HCE)
    | ((with_reducible refine gate_store (t := 4) (p := 46) rfl ?_); refine Lb.store_one rfl rfl 4 (.tmp 46) (.const (.bool false)) rfl (g := g12) (off := 3) (u := .bool false) rfl rfl rfl rfl HC.out.st (by kernel_rfl) (show 3 < 14 by decide) ?_; intro w3 hb3 hg3; replace HC := Aside0.mk (HC.out.set hb3 hg3 HLT.out); clear hb3 hg3))
  go_upto_region 25 with (first
    | ((with_reducible refine gate_dst (N := 24) rfl ?_); refine box_event ?hg (N := 24) ?hd (cs := ndC nd0) (t := 43) ?hr ?_; (case hd => rfl); (case hg => rfl); (case hr => first | (go_simp; done) | (go_simp; rfl)); intro g23 hg23 w8 hx hb; have HE := Aside0.mk hx; have HBE := Aside0.mk hb; have HGE := Aside0.mk hg23; have HCE := HC; clear HC; clear hx hb hg23)
    | ((with_reducible refine gate_store (t := 43) (p := 24) rfl ?_); refine Lb.store_whole rfl rfl 43 (.tmp 24) (.tmp 49) rfl (new := ndC { nd0 with kind := 2, mode := 420 }) rfl rfl HE.out rfl (by kernel_rfl) (ndC_one _ none rfl) ?_; intro w9 hb9 hg9; have HB9 := Aside0.mk (Lb.grown_below HBE.out hg9 HBE.out.size (by have := HGE.out; omega)); have HN := Aside0.mk hb9; clear hb9 hg9 HE HBE)
    | ((with_reducible refine gate_store (t := 3) (p := 54) rfl ?_); refine Lb.store_one rfl rfl 3 (.tmp 54) (.const (.int .i64 493)) rfl (g := g23) (off := 1) (u := .int .i64 493) rfl rfl rfl rfl HN.out (by kernel_rfl) (show 1 < 21 by decide) ?_; intro w11 hb hg; rw [fld1] at hb; have HC := Aside0.mk (HCE.out.step (Lb.grown_below HB9.out hg HB9.out.size (by have := HGE.out; omega))); have HN2 := Aside0.mk hb; clear hb hg HB9 HN HCE HGE))
  go_wp2_with (first
    | ((with_reducible refine gate_dst (N := 85) rfl ?_); refine wpList_load_row rfl 29 (.tmp 10) rfl g8 rfl 29 (callC now) (0, 0) _ HC.out.cl Tryz.underlying29 rfl (by kernel_rfl) ?_)
    | ((with_reducible refine gate_dst (N := 88) rfl ?_); refine wpList_load_row rfl 43 (.tmp 24) rfl g23 rfl 43 (ndC { nd0 with kind := 2, mode := 493 }) (0, 0) _ HN2.out Tryz.underlying43 rfl (by kernel_rfl) ?_)
    | ((with_reducible refine gate_dst (N := 89) rfl ?_); refine wpList_load_row rfl 36 (.tmp 14) rfl g12 rfl 36 (setC false false 0 0) (0, 0) _ HC.out.st Tryz.underlying36 rfl (by kernel_rfl) ?_)
    | (go_at_call 36; (with_reducible refine (add_dir g bN bM last F m b d p { nd0 with kind := 2, mode := 493 } now s _ HC.out.fs HM.out HL.out.1 HL.out.2 HC.out.par HC.out.dir HPN.out HPI.out rfl HPL.out.1 HPL.out.2 HS.out).mono ?_); rintro e w12 ⟨rfl, g10, gd, r1, r0, r2, r3, r4, r5, r6, r7⟩; have HR := Aside0.mk (And.intro (Nat.le_trans HC.out.bel.size r1) (And.intro (Nat.le_trans HC.out.bel.size r0) (And.intro r2 (And.intro r3 (And.intro r4 (And.intro r5 (And.intro r6 ((Kp.of HC.out.bel).trans r7)))))))); clear r1 r0 r2 r3 r4 r5 r6 r7))
  go_ret2
  exact ⟨rfl, g10, gd, HR.out⟩
end Go.Proofs.YtlnfadlgjcnngaaGreat.Co
