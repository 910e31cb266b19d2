/- A directory of one name: how high its trees are, Len; changed. -/
import Derived.Test.YtlnfadlgjcnngaaGreatQ07
namespace Go.Proofs.YtlnfadlgjcnngaaGreat.Co
open Go.RowKit Go.Maps Go.Lib Go.Proofs.YtlnfadlgjcnngaaGreat.Ap Go.Proofs.YtlnfadlgjcnngaaGreatW.PrintWords Go.Proofs.YtlnfadlgjcnngaaGreatW.PrintLast Go.Proofs.YtlnfadlgjcnngaaGreatW.PrintMore
set_option linter.unusedVariables false
set_option linter.unusedSimpArgs false

set_option maxRecDepth 100000 in
theorem height_nam (d kn : Nat) (v0 v1 : Value) (w : World) (h0 : w.cell? ⟨d, 0, none⟩ = some (.pointer (some ⟨kn, 0, none⟩))) (h : w.heap[kn]? = some (.cells #[v0, v1, .slice none 0 0] 219 (0, 0))) :
    Calls Tryz.prog 152 #[.pointer (some ⟨d, 0, none⟩)] w fun e w' => e = .returned (.int .i64 1) ∧ w = w' := by
  have n2 := (blk_cell h 2).trans rfl
  have hsn := fun w : World => Lib.run_eql_slice_nil (P := Tryz.prog) w 217 96 none 0 0 0 0 Tryz.underlying217
  simp only [Option.isNone_none, Bool.not_true] at hsn
  clear h
  go_enter Tryz.func152, Tryz.ntmps152
  go_wp2
  go_loopg [3, 4] 1 (fun gk s3 s4 wr => s3 = .int .i64 0 ∧ s4 = .pointer (some ⟨kn, 0, none⟩) ∧ w = wr)
  case atStart => exact ⟨rfl, rfl, rfl⟩
  case round =>
    obtain ⟨rfl, rfl, rfl⟩ := hrel
    go_wp2
    go_ret
    exact ⟨rfl, rfl⟩
set_option maxRecDepth 100000 in
theorem height_coo (d kn : Nat) (v0 v1 : Value) (w : World) (h0 : w.cell? ⟨d, 2, none⟩ = some (.pointer (some ⟨kn, 0, none⟩))) (h : w.heap[kn]? = some (.cells #[v0, v1, .slice none 0 0] 231 (0, 0))) :
    Calls Tryz.prog 153 #[.pointer (some ⟨d, 2, none⟩)] w fun e w' => e = .returned (.int .i64 1) ∧ w = w' := by
  have n2 := (blk_cell h 2).trans rfl
  have hsn := fun w : World => Lib.run_eql_slice_nil (P := Tryz.prog) w 229 99 none 0 0 0 0 Tryz.underlying229
  simp only [Option.isNone_none, Bool.not_true] at hsn
  clear h
  go_enter Tryz.func153, Tryz.ntmps153
  go_wp2
  go_loopg [3, 4] 1 (fun gk s3 s4 wr => s3 = .int .i64 0 ∧ s4 = .pointer (some ⟨kn, 0, none⟩) ∧ w = wr)
  case atStart => exact ⟨rfl, rfl, rfl⟩
  case round =>
    obtain ⟨rfl, rfl, rfl⟩ := hrel
    go_wp2
    go_ret
    exact ⟨rfl, rfl⟩
set_option maxRecDepth 100000 in
theorem len_one (d : Nat) (s : ByteArray) (id : Int) (w : World) (h : DirO w d s id) :
    Calls Tryz.prog 125 #[.pointer (some ⟨d, 0, none⟩)] w fun e w' => e = .returned (.tuple #[.int .i64 1, .int .i64 1, .int .i64 1]) ∧ Below w.heap.size w w' := by
  obtain ⟨kn, nK, nV, kc, cK, cV, h1, h2, h3, h4, h5, h6, h7⟩ := h.ex
  have HD := Aside0.mk (Lb.blk_below h1 (Lb.below_drew w))
  have HN := Aside0.mk (Lb.blk_below h2 (Lb.below_drew w))
  have HC := Aside0.mk (Lb.blk_below h5 (Lb.below_drew w))
  clear h h1 h2 h3 h4 h5 h6 h7
  go_enter Tryz.func125, Tryz.ntmps125
  go_wp2
  obtain ⟨c0, c1, c2, c3, c4⟩ := dir_cells HD.out
  go_region_held3 (fun w' => w'.cell? ⟨d, 1, none⟩ = some (.int .i64 1)) (exact (dir_cells HD.out).2.1) (first
    | (go_at_call 152; (with_reducible refine (height_nam d kn _ _ _ (dir_cells HD.out).1 HN.out).mono ?_); rintro e1 w1 ⟨rfl, rfl⟩)
    | (go_at_call 153; (with_reducible refine (height_coo d kc _ _ _ (dir_cells HD.out).2.2.1 HC.out).mono ?_); rintro e2 w2 ⟨rfl, rfl⟩))
  all_goals
    go_wp2
    exact bodyPost_ret (v := .tuple #[.int .i64 1, .int .i64 1, .int .i64 1]) (by simp [results, Tryz.results125, go_sem]) rfl ⟨rfl, Lb.below_drew w⟩
theorem time_calls (now : Int) (w : World) : Calls Tryz.prog 42 #[rootC now] w fun e w' => e = .returned (.agg #[.int .i64 now, .int .i64 0]) ∧ Below w.heap.size w w' :=
  PA.core_Caller_time.calls 0 0 none 0 [] now now 0 w (Kd.C_nil _ _) (Nat.le_refl _) rfl
/-- a node is stored into -/
theorem FsAt.node {w w' : World} {g bN bM : Nat} {last : Int} {F : Int → Option Nat} {m b : Nat} {n : Nd} (h : FsAt w g bN bM last F m) (hk : Kp [b] w w') (hn : NodeAt w b n) : FsAt w' g bN bM last F m := by
  refine h.keep hk ?_ ?_ ?_
  · have := ne_type h.blk hn (by decide)
    simpa using this
  · intro e
    have e : bN = b := by simpa using e
    obtain ⟨D', ⟨es, clock, hb, _⟩, _⟩ := h.nodes
    subst e
    have hn' : w.heap[_]? = some (Obj.cells (ndC n) 43 (0, 0)) := hn
    rw [hb] at hn'
    injection hn' with hn'
    cases hn'
  · intro e
    have e : bM = b := by simpa using e
    obtain ⟨D', es, clock, hb, _⟩ := h.met
    subst e
    have hn' : w.heap[_]? = some (Obj.cells (ndC n) 43 (0, 0)) := hn
    rw [hb] at hn'
    injection hn' with hn'
    cases hn'
/-- a directory's names were changed -/
def Nd.chg (n : Nd) (now : Int) : Nd := { n with size := 1, tm := now, nm := 0, tc := now, nc := 0 }
theorem set4 {w : World} {b : Nat} {n : Nd} (h : NodeAt w b n) (x y z u : Int) :
    NodeAt ((((w.setCell ⟨b, 13, none⟩ (.int .i64 x)).setCell ⟨b, 14, none⟩ (.int .i64 y)).setCell ⟨b, 15, none⟩ (.int .i64 z)).setCell ⟨b, 16, none⟩ (.int .i64 u)) b { n with tm := x, nm := y, tc := z, nc := u } ∧
    w.grownBy ((((w.setCell ⟨b, 13, none⟩ (.int .i64 x)).setCell ⟨b, 14, none⟩ (.int .i64 y)).setCell ⟨b, 15, none⟩ (.int .i64 z)).setCell ⟨b, 16, none⟩ (.int .i64 u)) (some b) := by
  have h0 := Lb.setCell_block w b 13 _ _ (.int .i64 x) h
  have h1 := Lb.setCell_block _ b 14 _ _ (.int .i64 y) h0
  have h2 := Lb.setCell_block _ b 15 _ _ (.int .i64 z) h1
  have h3 := Lb.setCell_block _ b 16 _ _ (.int .i64 u) h2
  exact ⟨h3, Lb.grown_trans (Lb.grown_trans (Lb.grown_trans (Lb.setCell_grown w b 13 _ _ _ h) (Lb.setCell_grown _ b 14 _ _ _ h0)) (Lb.setCell_grown _ b 15 _ _ _ h1)) (Lb.setCell_grown _ b 16 _ _ _ h2)⟩
set_option maxRecDepth 100000 in
set_option maxHeartbeats 4000000 in
theorem changed_one (g bN bM : Nat) (last : Int) (F : Int → Option Nat) (m b d : Nat) (n : Nd) (now id : Int) (s : ByteArray) (w : World) (h : FsAt w g bN bM last F m) (hm : m ≤ 900000) (hn : NodeAt w b n) (hd : DirO w d s id) (hp : n.names = .pointer (some ⟨d, 0, none⟩)) (hi : InI n.id) (hs : s.size ≤ maxLen) :
    Calls Tryz.prog 84 #[.pointer (some ⟨g, 0, none⟩), rootC now, .pointer (some ⟨b, 0, none⟩), .string s] w fun e w' => e = .returned (.tuple #[]) ∧ FsAt w' g bN bM last F (m + 2) ∧ NodeAt w' b (n.chg now) ∧ Kp [bM, b] w w' := by
  have H := Aside0.mk h
  have HN := Aside0.mk hn
  have HO := Aside0.mk hd
  have HKP := Aside0.mk (Kp.refl [bM, b] w)
  have HM := Aside0.mk hm
  have HI := Aside0.mk hi
  have HS := Aside0.mk hs
  have HP := Aside0.mk hp
  have hne : b ∉ [bM] := by
    obtain ⟨D', es, clock, hb, _⟩ := h.met
    intro e
    have e : b = bM := by simpa using e
    subst e
    have hn' : w.heap[_]? = some (Obj.cells (ndC n) 43 (0, 0)) := hn
    rw [hb] at hn'
    injection hn' with hn'
    cases hn'
  have HNE := Aside0.mk hne
  have n20 : w.cell? ⟨b, 20, none⟩ = some (.pointer (some ⟨d, 0, none⟩)) := by rw [← hp]; exact (blk_cell hn 20).trans rfl
  clear h hm hn hd hp hi hs hne
  go_enter Tryz.func84, Tryz.ntmps84
  go_wp2_with (first
    | ((with_reducible refine gate_dst (N := 5) rfl ?_); refine Lb.alloc_event ?hg (v := fun g => .pointer (some ⟨g, 0, none⟩)) (cs := #[.int .i64 0, .int .i64 0, .slice none 0 0, .int .i64 now]) (t := 29) (fr := (0, 0)) ?hr ?_; (case hg => rfl); (case hr => first | (go_simp; done) | (go_simp; rfl)); intro g5 hg5 w1 hx hb; have HX := Aside0.mk hx; replace H := Aside0.mk (H.out.step hb); replace HN := Aside0.mk (Lb.blk_below HN.out hb); replace HO := Aside0.mk (HO.out.keep (Kp.of hb : Kp [] _ _) (by simp)); replace HKP := Aside0.mk (HKP.out.trans (Kp.of hb)); clear hx hb hg5 n20; have n20 : w1.cell? ⟨b, 20, none⟩ = some (.pointer (some ⟨d, 0, none⟩)) := by rw [← HP.out]; exact (blk_cell HN.out 20).trans rfl)
    | (go_at_call 125; (with_reducible refine (len_one d s id _ HO.out).mono ?_); rintro e2 w2 ⟨rfl, hb⟩; replace H := Aside0.mk (H.out.step hb); replace HN := Aside0.mk (Lb.blk_below HN.out hb); replace HX := Aside0.mk (Lb.blk_below HX.out hb); replace HO := Aside0.mk (HO.out.keep (Kp.of hb : Kp [] _ _) (by simp)); replace HKP := Aside0.mk (HKP.out.trans (Kp.of hb)); clear hb n20)
    | ((with_reducible refine gate_store (t := 3) (p := 20) rfl ?_); refine Lb.store_one rfl rfl 3 (.tmp 20) (.tmp 15) rfl (g := b) (off := 5) (u := .int .i64 1) rfl rfl rfl rfl HN.out (by kernel_rfl) (show 5 < 21 by decide) ?_; intro w3 hb hg; have hk := Kp.blk HN.out (.inr (.inl rfl)) hg; replace H := Aside0.mk (H.out.node hk HN.out); replace HX := Aside0.mk (hk.typ _ _ _ _ HX.out (by decide)); replace HKP := Aside0.mk (HKP.out.trans (hk.mono (by simp))); replace HN : Aside0 (NodeAt w3 b { n with size := 1 }) := ⟨hb⟩; clear hb hg hk))
  replace H := Aside0.mk (H.out.step (Lb.below_drew _))
  replace HN := Aside0.mk (Lb.blk_below HN.out (Lb.below_drew _))
  replace HX := Aside0.mk (Lb.blk_below HX.out (Lb.below_drew _))
  replace HKP := Aside0.mk (HKP.out.trans (Kp.of (Lb.below_drew _)))
  have e0 := (blk_cell HX.out 0).trans rfl
  have e1 := (blk_cell HX.out 1).trans rfl
  have e2 := (blk_cell HX.out 2).trans rfl
  have e3 := (blk_cell HX.out 3).trans rfl
  go_region_with (first
    | (go_at_call 42; (with_reducible refine (time_calls now _).mono ?_); rintro e6 w6 ⟨rfl, hb⟩; replace H := Aside0.mk (H.out.step hb); replace HN := Aside0.mk (Lb.blk_below HN.out hb); replace HX := Aside0.mk (Lb.blk_below HX.out hb); replace HKP := Aside0.mk (HKP.out.trans (Kp.of hb)); clear hb e0 e1 e2 e3; (try clear a13 a14 a15 a16 f13 f14 f15 f16); have e0 := (blk_cell HX.out 0).trans rfl; have e1 := (blk_cell HX.out 1).trans rfl; have e2 := (blk_cell HX.out 2).trans rfl; have e3 := (blk_cell HX.out 3).trans rfl; obtain ⟨-, -, -, -, -, -, -, -, -, -, -, -, -, a13, a14, a15, a16, -, -, -, -⟩ := NodeAt.cells HN.out; have f13 := blk_frozen HN.out 13; have f14 := blk_frozen HN.out 14; have f15 := blk_frozen HN.out 15; have f16 := blk_frozen HN.out 16))
  all_goals
    obtain ⟨h1, h2⟩ := set4 HN.out now 0 now 0
    generalize (((w6.setCell ⟨b, 13, none⟩ (.int .i64 now)).setCell ⟨b, 14, none⟩ (.int .i64 0)).setCell ⟨b, 15, none⟩ (.int .i64 now)).setCell ⟨b, 16, none⟩ (.int .i64 0) = w7 at h1 h2 ⊢
    have hk := Kp.blk HN.out (.inr (.inl rfl)) h2
    replace H := Aside0.mk (H.out.node hk HN.out)
    replace HKP := Aside0.mk (HKP.out.trans (hk.mono (by simp)))
    replace HN : Aside0 (NodeAt w7 b (n.chg now)) := ⟨h1⟩
    clear h1 h2 hk
    (try clear a13 a14 a15 a16 f13 f14 f15 f16 e0 e1 e2 e3)
    have n10 : w7.cell? ⟨b, 10, none⟩ = some (.int .i64 n.id) := (blk_cell HN.out 10).trans rfl
    go_wp2_with (first
      | (go_at_call 30; (with_reducible refine (touch_calls g bN bM last F m n.id ⟨#[]⟩ _ H.out (by have := HM.out; omega) HI.out (Nat.zero_le _)).mono ?_); rintro e8 w8 ⟨rfl, hf, hk⟩; replace H := Aside0.mk hf; replace HN := Aside0.mk (hk.keep _ _ HN.out HNE.out); replace HKP := Aside0.mk (HKP.out.trans (hk.mono (by simp))); clear hf hk n10; have n10 : w8.cell? ⟨b, 10, none⟩ = some (.int .i64 n.id) := (blk_cell HN.out 10).trans rfl)
      | (go_at_call 30; (with_reducible refine (touch_calls g bN bM last F (m + 1) n.id s _ H.out (by have := HM.out; omega) HI.out HS.out).mono ?_); rintro e9 w9 ⟨rfl, hf, hk⟩; replace H := Aside0.mk hf; replace HN := Aside0.mk (hk.keep _ _ HN.out HNE.out); replace HKP := Aside0.mk (HKP.out.trans (hk.mono (by simp))); clear hf hk n10))
    go_end0
    exact ⟨rfl, H.out, HN.out, HKP.out⟩
end Go.Proofs.YtlnfadlgjcnngaaGreat.Co
