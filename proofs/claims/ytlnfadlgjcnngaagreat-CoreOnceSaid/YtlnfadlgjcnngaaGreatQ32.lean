/- A directory of one name: get, Get; Create of a name that is there. A bad name: spot, Create. -/
import Derived.Test.YtlnfadlgjcnngaaGreatQ31
namespace Go.Proofs.YtlnfadlgjcnngaaGreat.Co
open Go.RowKit Go.Maps Go.Lib Go.Proofs.YtlnfadlgjcnngaaGreat.Ap Go.Proofs.YtlnfadlgjcnngaaGreatW.PrintWords Go.Proofs.YtlnfadlgjcnngaaGreatW.PrintLast Go.Proofs.YtlnfadlgjcnngaaGreatW.PrintMore
set_option linter.unusedVariables false
set_option linter.unusedSimpArgs false

theorem bytesLess_self : ∀ l : List UInt8, Op.bytesLess l l = false
  | [] => rfl
  | x :: l => by
    unfold Op.bytesLess
    simp [bytesLess_self l]
theorem bs_str_one (k cap : Nat) (row : Array Value) (s : ByteArray) (w : World) (hr : w.heap[k]? = some (.cells row 9 (0, 0))) (h0 : row[0]? = some (.string s)) (hc : 1 ≤ cap) : Calls Tryz.prog 120 #[.slice (some ⟨k, 0, none⟩) 1 cap, .string s] w fun e w' => e = .returned (.tuple #[.int .i64 0, .bool true]) ∧ Below w.heap.size w w' := by
  refine (PA.slices_BinarySearch_string_string.calls 2 (some ⟨k, 0, none⟩) cap [s] s 0 true w ⟨rfl, by simp, fun hpos => ⟨_, rfl, fun j p hj => ⟨[.string p], rfl, rfl, fun i u hu => ?_⟩⟩⟩ hc ?_).mono (fun e w' h => ⟨h.1, ?_⟩)
  · have hi : i = 0 := by have := (List.getElem?_eq_some_iff.1 hu).1; simpa using this
    subst hi
    have hj0 : j = 0 := by have := (List.getElem?_eq_some_iff.1 hj).1; simpa using this
    subst hj0
    simp at hu hj
    subst hu hj
    show w.cell? ((⟨k, 0, none⟩ : Addr).add (0 * 1 + 0)) = _
    rw [add_off]
    exact (blk_cell hr 0).trans h0
  · have e1 : wrap64 (IntKind.u64.wrap (wrap64 (0 + 1)) / 2) = 0 := by decide +kernel
    have e2 : rdOf ByteArray.empty [s] 0 = s := rfl
    have e3 : PA.cmp_Less_string.f s s = some false := by
      unfold PA.cmp_Less_string.f PA.cmp_isNaN_string.f
      simp [bytesLess_self]
    unfold PA.slices_BinarySearch_string_string.f
    have el : (([s] : List ByteArray).length : Int) = 1 := rfl
    rw [el]
    rw [PA.slices_BinarySearch_string_string.l0, e1, el, if_pos (by decide), if_pos (by decide), if_pos (by decide), e2, e3, Option.bind_some, if_neg (by decide)]
    rw [PA.slices_BinarySearch_string_string.l0, el, if_neg (by decide), if_pos (by decide), if_pos (by decide), if_pos (by decide), e2, if_pos rfl]
  · obtain ⟨n, rfl⟩ := h.2
    exact bel_drewN _ _
abbrev entC (s : ByteArray) (id : Int) : Array Value := #[.string s, .int .i64 id, .int .i64 3]
set_option maxRecDepth 100000 in
theorem tget_one (d : Nat) (s : ByteArray) (id : Int) (w : World) (h : DirO w d s id) :
    Calls Tryz.prog 79 #[.pointer (some ⟨d, 0, none⟩), .string s] w fun e w' => e = .returned (.tuple #[.agg (entC s id), .bool true]) ∧ Below w.heap.size w w' := by
  obtain ⟨kn, nK, nV, kc, cK, cV, h1, h2, h3, h4, h5, h6, h7⟩ := h.ex
  obtain ⟨ka, ca, ra, rfl, hra, hea⟩ := own_one h3
  obtain ⟨kv, cv, rv, rfl, hrv, hev⟩ := own_one h4
  have hca : 1 ≤ ca := by obtain ⟨_, h3 | ⟨_, cap, row, e, _, _, hn, _⟩⟩ := h3
                          · omega
                          · injection e with _ _ e; omega
  have HD := Aside0.mk h1
  have HN := Aside0.mk h2
  have HA := Aside0.mk hra
  have HEA := Aside0.mk (And.intro (hea 0 (.string s) rfl) hca)
  have HV := Aside0.mk hrv
  have HEV : Aside0 (rv[0]? = some (.string s) ∧ rv[1]? = some (.int .i64 id) ∧ rv[2]? = some (.int .i64 3)) := ⟨hev 0 _ rfl, hev 1 _ rfl, hev 2 _ rfl⟩
  have HB := Aside0.mk (Below.refl w.heap.size w)
  clear h h1 h2 h3 h4 h5 h6 h7 hra hea hrv hev hca
  go_enter Tryz.func79, Tryz.ntmps79
  go_wp2_with (first
    | ((with_reducible refine gate_dst (N := 4) rfl ?_); refine Lb.alloc_event ?hg (v := fun g => .pointer (some ⟨g, 0, none⟩)) (cs := #[.string ⟨#[]⟩, .int .i64 0, .int .i64 0]) (t := 108) (fr := (0, 0)) ?hr ?_; (case hg => rfl); (case hr => first | (go_simp; done) | (go_simp; rfl)); intro g4 hg4 w1 hx hb; have HX := Aside0.mk hx; replace HD := Aside0.mk (Lb.blk_below HD.out hb); replace HN := Aside0.mk (Lb.blk_below HN.out hb); replace HA := Aside0.mk (Lb.blk_below HA.out hb); replace HV := Aside0.mk (Lb.blk_below HV.out hb); replace HB := Aside0.mk (below_step HB.out hb); have d0 := (dir_cells HD.out).1; have HG := Aside0.mk hg4; clear hx hb hg4))
  go_loopg [6] 1 (fun gk s6 wr => s6 = .pointer (some ⟨kn, 0, none⟩) ∧ w1 = wr)
  case atStart => exact ⟨rfl, rfl⟩
  case round =>
    obtain ⟨rfl, rfl⟩ := hrel
    have n0 := (blk_cell HN.out 0).trans rfl
    go_wp2_with (first
      | (go_at_call 120; (with_reducible refine (bs_str_one ka ca ra s _ HA.out HEA.out.1 HEA.out.2).mono ?_); rintro e5 w5 ⟨rfl, hb⟩; replace HN := Aside0.mk (Lb.blk_below HN.out hb); replace HV := Aside0.mk (Lb.blk_below HV.out hb); have HX5 := Aside0.mk (Lb.blk_below HX.out hb); replace HB := Aside0.mk (below_step HB.out hb); clear hb n0 HX; have n1 := (blk_cell HN.out 1).trans rfl; have v0 := (blk_cell HV.out 0).trans HEV.out.1; have v1 := (blk_cell HV.out 1).trans HEV.out.2.1; have v2 := (blk_cell HV.out 2).trans HEV.out.2.2)
      | ((with_reducible refine gate_store (t := 108) (p := 4) rfl ?_); refine Lb.store_whole rfl rfl 108 (.tmp 4) (.tmp 31) rfl (new := entC s id) rfl rfl HX5.out rfl (by kernel_rfl) (by simp [Value.oneCell']) ?_; intro w2 hb hg; have HX2 := Aside0.mk hb; replace HB := Aside0.mk (Lb.grown_below HB.out hg HB.out.size (by have := HG.out; omega)); clear hb hg n1 v0 v1 v2; have e0 := (blk_cell HX2.out 0).trans rfl; have e1 := (blk_cell HX2.out 1).trans rfl; have e2 := (blk_cell HX2.out 2).trans rfl))
    exact bodyPost_ret (v := .tuple #[.agg (entC s id), .bool true]) (by simp [results, Tryz.results79, go_sem, e0, e1, e2, entC]) rfl ⟨rfl, HB.out⟩
set_option maxRecDepth 100000 in
theorem get_one (d : Nat) (s : ByteArray) (id : Int) (w : World) (h : DirO w d s id) :
    Calls Tryz.prog 32 #[.pointer (some ⟨d, 0, none⟩), .string s] w fun e w' => e = .returned (.tuple #[.agg (entC s id), .bool true]) ∧ Below w.heap.size w w' := by
  have H := Aside0.mk h
  have HB := Aside0.mk (Below.refl w.heap.size w)
  clear h
  go_enter Tryz.func32, Tryz.ntmps32
  go_wp2_with (first
    | ((with_reducible refine gate_dst (N := 4) rfl ?_); refine Lb.alloc_event ?hg (v := fun g => .pointer (some ⟨g, 0, none⟩)) (cs := #[.string ⟨#[]⟩, .int .i64 0, .int .i64 0]) (t := 108) (fr := (0, 0)) ?hr ?_; (case hg => rfl); (case hr => first | (go_simp; done) | (go_simp; rfl)); intro g4 hg4 w1 hx hb; have HX := Aside0.mk hx; replace H := Aside0.mk (H.out.keep (Kp.of hb : Kp [] _ _) (by simp)); replace HB := Aside0.mk (below_step HB.out hb); have HG := Aside0.mk (show w.heap.size ≤ g4 by omega); clear hx hb hg4)
    | (go_at_call 79; (with_reducible refine (tget_one d s id _ H.out).mono ?_); rintro e4 w4 ⟨rfl, hb⟩; replace HB := Aside0.mk (below_step HB.out hb); replace HX := Aside0.mk (Lb.blk_below HX.out hb); clear hb)
    | ((with_reducible refine gate_store (t := 108) (p := 4) rfl ?_); refine Lb.store_whole rfl rfl 108 (.tmp 4) (.tmp 14) rfl (new := entC s id) rfl rfl HX.out rfl (by kernel_rfl) (by simp [Value.oneCell']) ?_; intro w2 hb hg; have HX2 := Aside0.mk hb; replace HB := Aside0.mk (Lb.grown_below HB.out hg HB.out.size HG.out); clear hb hg; have e0 := (blk_cell HX2.out 0).trans rfl; have e1 := (blk_cell HX2.out 1).trans rfl; have e2 := (blk_cell HX2.out 2).trans rfl))
  exact bodyPost_ret (v := .tuple #[.agg (entC s id), .bool true]) (by simp [results, Tryz.results32, go_sem, e0, e1, e2, entC]) rfl ⟨rfl, HB.out⟩
set_option maxRecDepth 100000 in
theorem spot_any (g bN bM : Nat) (last : Int) (F : Int → Option Nat) (m b : Nat) (n : Nd) (now i : Int) (s : ByteArray) (w : World) (h : FsAt w g bN bM last F m) (hi : InI i) (hF : F i = some b) (hn : NodeAt w b n) (hk : n.kind = 2) :
    Calls Tryz.prog 31 #[.pointer (some ⟨g, 0, none⟩), rootC now, .int .i64 i, .string s] w fun e w' => e = .returned (.tuple #[.pointer (some ⟨b, 0, none⟩), .int .i64 (chk s)]) ∧ Below w.heap.size w w' := by
  have H := Aside0.mk h
  have HI := Aside0.mk hi
  have HF := Aside0.mk hF
  have HN := Aside0.mk hn
  have HK := Aside0.mk hk
  have HB := Aside0.mk (Below.refl w.heap.size w)
  clear h hi hF hn hk
  go_enter Tryz.func31, Tryz.ntmps31
  go_wp2_with (first
    | ((with_reducible refine gate_dst (N := 5) rfl ?_); refine Lb.alloc_event ?hg (v := fun g => .pointer (some ⟨g, 0, none⟩)) (cs := #[.int .i64 0, .int .i64 0, .slice none 0 0, .int .i64 now]) (t := 29) (fr := (0, 0)) ?hr ?_; (case hg => rfl); (case hr => first | (go_simp; done) | (go_simp; rfl)); intro g5 hg5 w1 hx hb; have HX := Aside0.mk hx; replace H := Aside0.mk (H.out.step hb); replace HN := Aside0.mk (Lb.blk_below HN.out hb); replace HB := Aside0.mk (below_step HB.out hb); have e0 := (blk_cell hx 0).trans rfl; have e1 := (blk_cell hx 1).trans rfl; have e2 := (blk_cell hx 2).trans rfl; have e3 := (blk_cell hx 3).trans rfl; clear hx hb hg5)
    | (go_at_call 43; (with_reducible refine (dir_calls g bN bM last F m b n now i 3 _ H.out HI.out HF.out HN.out HK.out).mono ?_); rintro e4 w4 ⟨rfl, hb⟩; replace HB := Aside0.mk (below_step HB.out hb); clear hb)
    | (go_at_call 44; (with_reducible refine (check_calls s _).mono ?_); rintro e5 w5 ⟨rfl, hb⟩; replace HB := Aside0.mk (below_step HB.out hb); clear hb))
  go_ret2
  exact ⟨rfl, HB.out⟩
set_option maxRecDepth 100000 in
set_option maxHeartbeats 4000000 in
/-- a name that is none -/
theorem create_bad (g bN bM : Nat) (last : Int) (F : Int → Option Nat) (m b : Nat) (p : Nd) (now i how : Int) (s verf : ByteArray) (w : World) (h : FsAt w g bN bM last F m) (hi : InI i) (hF : F i = some b) (hp : NodeAt w b p) (hpk : p.kind = 2) (hs : chk s ≠ 0) :
    Calls Tryz.prog 10 #[.pointer (some ⟨g, 0, none⟩), rootC now, .int .i64 i, .string s, .int .i64 how, setV false false 0 0, .string verf] w fun e w' => e = .returned (.tuple #[.int .i64 0, .int .i64 (chk s)]) ∧ Below w.heap.size w w' := by
  have H := Aside0.mk h
  have HI := Aside0.mk (And.intro hi hF)
  have HP := Aside0.mk hp
  have HPK := Aside0.mk hpk
  have HB := Aside0.mk (Below.refl w.heap.size w)
  have hne : (chk s != 0) = true := by simpa using hs
  clear h hp hpk hi hF hs
  go_enter Tryz.func10, Tryz.ntmps10
  go_wp2_with (first
    | ((with_reducible refine gate_dst (N := 8) rfl ?_); refine Lb.alloc_event ?hg (v := fun g => .pointer (some ⟨g, 0, none⟩)) (cs := callC now) (t := 29) (fr := (0, 0)) ?hr ?_; (case hg => rfl); (case hr => first | (go_simp; done) | (go_simp; rfl)); intro g8 hg8 w1 hx hb; have HX := Aside0.mk hx; replace H := Aside0.mk (H.out.step hb); replace HP := Aside0.mk (Lb.blk_below HP.out hb); replace HB := Aside0.mk (below_step HB.out hb); clear hx hb hg8)
    | ((with_reducible refine gate_dst (N := 12) rfl ?_); refine Lb.alloc_event ?hg (v := fun g => .pointer (some ⟨g, 0, none⟩)) (cs := setC false false 0 0) (t := 36) (fr := (0, 0)) ?hr ?_; (case hg => rfl); (case hr => first | (go_simp; done) | (go_simp; rfl)); intro g12 hg12 w2 hx hb; replace HX := Aside0.mk (Lb.blk_below HX.out hb); replace H := Aside0.mk (H.out.step hb); replace HP := Aside0.mk (Lb.blk_below HP.out hb); replace HB := Aside0.mk (below_step HB.out hb); clear hx hb hg12)
    | ((with_reducible refine gate_dst (N := 27) rfl ?_); refine wpList_load_row rfl 29 (.tmp 8) rfl g8 rfl 29 (callC now) (0, 0) _ HX.out Tryz.underlying29 rfl (by kernel_rfl) ?_)
    | (go_at_call 31; (with_reducible refine (spot_any g bN bM last F m b p now i s _ H.out HI.out.1 HI.out.2 HP.out HPK.out).mono ?_); rintro e w4 ⟨rfl, hb⟩; replace HB := Aside0.mk (below_step HB.out hb); clear hb))
  go_ret2
  exact ⟨rfl, HB.out⟩
end Go.Proofs.YtlnfadlgjcnngaaGreat.Co
