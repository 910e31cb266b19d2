/- SetAttr of a size. -/
import Derived.Test.YtlnfadlgjcnngaaGreatQ52
namespace Go.Proofs.YtlnfadlgjcnngaaGreat.Co
open Go.RowKit Go.Maps Go.Lib Go.Proofs.YtlnfadlgjcnngaaGreat.Ap Go.Proofs.YtlnfadlgjcnngaaGreatW.PrintWords Go.Proofs.YtlnfadlgjcnngaaGreatW.PrintLast Go.Proofs.YtlnfadlgjcnngaaGreatW.PrintMore
set_option linter.unusedVariables false
set_option linter.unusedSimpArgs false

theorem cutB_self (d : ByteArray) : cutB d d.size = d := by
  unfold cutB
  rw [if_pos (Nat.le_refl _)]
  simp
/-- a file with such bytes -/
structure Fl (n n' : Nd) (d : ByteArray) : Prop where
  kind : n'.kind = n.kind
  data : n'.data = d
  size : n'.size = n'.data.size
theorem set_size (b : Nat) (n : Nd) (now : Int) (size : Nat) (w : World) (hn : NodeAt w b n) (hz : n.size = n.data.size) (hd : n.data.size ≤ 9000) (hs : size ≤ 9000) :
    Calls Tryz.prog 34 #[rootC now, .pointer (some ⟨b, 0, none⟩), setV false true 0 size] w fun e w' => e = .returned (.tuple #[]) ∧ (∃ n', NodeAt w' b n' ∧ Fl n n' (cutB n.data size)) ∧ Kp [b] w w' := by
  by_cases h : (size : Int) = n.size
  · refine (set_same b n now 0 size w hn h).mono ?_
    rintro e w' ⟨h1, h2, h3⟩
    refine ⟨h1, ⟨_, h2, rfl, ?_, hz⟩, h3⟩
    have : size = n.data.size := by omega
    rw [this, cutB_self]
    rfl
  · refine (set_other b n now 0 size w hn h hd hs).mono ?_
    rintro e w' ⟨h1, h2, h3⟩
    exact ⟨h1, ⟨_, h2, rfl, rfl, rfl⟩, h3⟩

set_option maxRecDepth 100000 in
set_option maxHeartbeats 4000000 in
theorem setattr_size (g bN bM : Nat) (last : Int) (F : Int → Option Nat) (m b : Nat) (n : Nd) (now i : Int) (size : Nat) (w : World) (h : FsAt w g bN bM last F m) (hm : m ≤ 800000) (hi : InI i) (hF : F i = some b) (hn : NodeAt w b n) (hk : n.kind = 1) (hz : n.size = n.data.size) (hd : n.data.size ≤ 8000) (hs : size ≤ 8000) :
    Calls Tryz.prog 12 #[.pointer (some ⟨g, 0, none⟩), rootC now, .int .i64 i, setV false true 0 size, .slice none 0 0] w fun e w' =>
      e = .returned (.int .i64 0) ∧ (∃ n', NodeAt w' b n' ∧ Fl n n' (cutB n.data size)) ∧ FsAt w' g bN bM last F (m + 1) ∧ Kp [bM, b] w w' := by
  have HM := Aside0.mk hm
  have H := Aside0.mk h
  have HI := Aside0.mk (And.intro hi hF)
  have HN := Aside0.mk hn
  have HK := Aside0.mk hk
  have HZ := Aside0.mk (And.intro hz (And.intro hd hs))
  have HB := Aside0.mk (Below.refl w.heap.size w)
  clear h hm hn hi hF hk hz hd hs
  go_enter Tryz.func12, Tryz.ntmps12
  go_upto_region 4 with (first
    | ((with_reducible refine gate_dst (N := 6) rfl ?_); refine Lb.alloc_event ?hg (v := fun g => .pointer (some ⟨g, 0, none⟩)) (cs := callC now) (t := 29) (fr := (0, 0)) ?hr ?_; (case hg => rfl); (case hr => first | (go_simp; done) | (go_simp; rfl)); intro g6 hg6 w1 hx hb; have HX := Aside0.mk hx; replace H := Aside0.mk (H.out.step hb); replace HN := Aside0.mk (Lb.blk_below HN.out hb); replace HB := Aside0.mk (below_step HB.out hb); clear hx hb hg6)
    | ((with_reducible refine gate_dst (N := 8) rfl ?_); refine Lb.alloc_event ?hg (v := fun g => .pointer (some ⟨g, 0, none⟩)) (cs := setC false true 0 size) (t := 36) (fr := (0, 0)) ?hr ?_; (case hg => rfl); (case hr => first | (go_simp; done) | (go_simp; rfl)); intro g8 hg8 w2 hx hb; have HS := Aside0.mk hx; replace HX := Aside0.mk (Lb.blk_below HX.out hb); replace H := Aside0.mk (H.out.step hb); replace HN := Aside0.mk (Lb.blk_below HN.out hb); replace HB := Aside0.mk (below_step HB.out hb); clear hx hb hg8)
    | (go_at_call 38; (with_reducible refine (get_calls g bN bM last F m b i _ H.out HI.out.1 HI.out.2).mono ?_); rintro e w3 ⟨rfl, rfl⟩))
  go_region
  all_goals
    replace H := Aside0.mk (H.out.step (Lb.below_drew _))
    replace HN := Aside0.mk (Lb.blk_below HN.out (Lb.below_drew _))
    replace HX := Aside0.mk (Lb.blk_below HX.out (Lb.below_drew _))
    replace HS := Aside0.mk (Lb.blk_below HS.out (Lb.below_drew _))
    replace HB := Aside0.mk (below_step HB.out (Lb.below_drew _))
    go_upto_region 9 with (first
        | ((with_reducible refine gate_dst (N := 39) rfl ?_); refine wpList_load_row rfl 29 (.tmp 6) rfl g6 rfl 29 (callC now) (0, 0) _ HX.out Tryz.underlying29 rfl (by kernel_rfl) ?_)
        | ((with_reducible refine gate_dst (N := 41) rfl ?_); refine wpList_load_row rfl 36 (.tmp 8) rfl g8 rfl 36 (setC false true 0 size) (0, 0) _ HS.out Tryz.underlying36 rfl (by kernel_rfl) ?_)
        | (go_at_call 33; (refine (settable_size b n now size _ HN.out HK.out (by omega) (by have := HZ.out; omega)).mono ?_); rintro e w4 ⟨rfl, hb⟩; replace H := Aside0.mk (H.out.step hb); replace HN := Aside0.mk (Lb.blk_below HN.out hb); replace HX := Aside0.mk (Lb.blk_below HX.out hb); replace HS := Aside0.mk (Lb.blk_below HS.out hb); replace HB := Aside0.mk (below_step HB.out hb); clear hb))
    go_wp2_with (first
        | ((with_reducible refine gate_dst (N := 46) rfl ?_); refine wpList_load_row rfl 29 (.tmp 6) rfl g6 rfl 29 (callC now) (0, 0) _ HX.out Tryz.underlying29 rfl (by kernel_rfl) ?_)
        | ((with_reducible refine gate_dst (N := 48) rfl ?_); refine wpList_load_row rfl 36 (.tmp 8) rfl g8 rfl 36 (setC false true 0 size) (0, 0) _ HS.out Tryz.underlying36 rfl (by kernel_rfl) ?_)
        | (go_at_call 34; (refine (set_size b n now size _ HN.out HZ.out.1 (by have := HZ.out; omega) (by have := HZ.out; omega)).mono ?_); rintro e w5 ⟨rfl, ⟨n', hn5, hfl⟩, hk5⟩; have H5 := Aside0.mk (H.out.node hk5 HN.out); have HN5 := Aside0.mk hn5; have HFL := Aside0.mk hfl; have HK5 := Aside0.mk ((Kp.of (ks := [b]) HB.out).trans hk5); clear hn5 hk5 hfl)
        | (go_at_call 30; (refine (touch_calls g bN bM last F m i ⟨#[]⟩ _ H5.out (by have := HM.out; omega) HI.out.1 (Nat.zero_le _)).mono ?_); rintro e w6 ⟨rfl, hf, hk⟩; have hx := H5.out.neN HN5.out; have HN6 := Aside0.mk (hk.keep _ _ HN5.out (by simpa using fun e : b = bM => hx.2 e.symm)); have HK6 : Aside0 (Kp [bM, b] w w6) := ⟨(HK5.out.mono (by simp)).trans (hk.mono (by simp))⟩; have HF6 := Aside0.mk hf; clear hf hk hx))
    go_ret
    exact ⟨rfl, ⟨n', HN6.out, HFL.out⟩, HF6.out, HK6.out⟩
end Go.Proofs.YtlnfadlgjcnngaaGreat.Co
