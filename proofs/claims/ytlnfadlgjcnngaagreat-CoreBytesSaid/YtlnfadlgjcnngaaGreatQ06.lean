/- An empty directory: put. -/
import Derived.Test.YtlnfadlgjcnngaaGreatQ05
import Derived.Deep.RegionHeld3
import Derived.Deep.CutBlock
import Derived.StillTailTactics
import Derived.WalkSpells
namespace Go.Proofs.YtlnfadlgjcnngaaGreat.Co
open Go.RowKit Go.Maps Go.Lib Go.Proofs.YtlnfadlgjcnngaaGreat.Ap Go.Proofs.YtlnfadlgjcnngaaGreatW.PrintWords Go.Proofs.YtlnfadlgjcnngaaGreatW.PrintLast Go.Proofs.YtlnfadlgjcnngaaGreatW.PrintMore
set_option linter.unusedVariables false
set_option linter.unusedSimpArgs false

theorem bel_drewN (w : World) (n : Nat) : Below w.heap.size w (w.drewN n) := ⟨rfl, rfl, rfl, Nat.le_refl _, fun _ _ => rfl⟩
theorem own_cells {w : World} {B e n sz : Nat} {v : Value} {xs : List Value} (h : w.ownsRow B e sz v n xs) : v.cells = #[v] ∧ v.oneCell' = true := by
  obtain ⟨_, h2⟩ := h
  rcases h2 with ⟨h2, _⟩ | ⟨g, cap, row, e2, _⟩
  · subst h2; exact ⟨rfl, rfl⟩
  · subst e2; exact ⟨rfl, rfl⟩
theorem own_zero {w : World} {B e n sz : Nat} {v : Value} {xs : List Value} (h : w.ownsRow B e sz v n xs) : w.ownsRow 0 e sz v n xs := by
  obtain ⟨h1, h2⟩ := h
  refine ⟨h1, ?_⟩
  rcases h2 with h2 | ⟨k, cap, row, e2, hge, rest⟩
  · exact .inl h2
  · exact .inr ⟨k, cap, row, e2, Nat.zero_le _, rest⟩
theorem own_step {w w' : World} {B e n sz : Nat} {v : Value} {xs : List Value} (h : w.ownsRow B e sz v n xs) (hb : Below w.heap.size w w') : w'.ownsRow B e sz v n xs := own_keep h (fun k cs f hr => Lb.blk_below hr hb)
theorem own_blk {w w' : World} {B e n sz g : Nat} {v : Value} {xs : List Value} {cs : Array Value} {t : TypeId} {f : Nat × Nat} (h : w.ownsRow B e sz v n xs) (hb : w.heap[g]? = some (.cells cs t f)) (hg : w.grownBy w' (some g)) (hne : e ≠ t) : w'.ownsRow B e sz v n xs := own_keep h (fun k cs f hr => types_blk hb hg _ _ _ _ hne hr)
theorem own_slice {w : World} {B e n sz : Nat} {v : Value} {xs : List Value} (h : w.ownsRow B e sz v n xs) : ∃ A cap, v = .slice A n cap ∧ n ≤ cap := by
  obtain ⟨_, h2⟩ := h
  rcases h2 with ⟨h2, h3⟩ | ⟨g, cap, row, e2, _, _, hn, _⟩
  · exact ⟨none, 0, by rw [h2, h3], by omega⟩
  · exact ⟨_, cap, e2, hn⟩
theorem bs_str (s : ByteArray) (w : World) : Calls Tryz.prog 120 #[.slice none 0 0, .string s] w fun e w' => e = .returned (.tuple #[.int .i64 0, .bool false]) ∧ Below w.heap.size w w' := by
  refine (PA.slices_BinarySearch_string_string.calls 1 none 0 [] s 0 false w (Kd.C_nil _ _) (Nat.le_refl _) ?_).mono (fun e w' h => ⟨h.1, ?_⟩)
  · unfold PA.slices_BinarySearch_string_string.f PA.slices_BinarySearch_string_string.l0
    rfl
  · obtain ⟨n, rfl⟩ := h.2
    exact bel_drewN _ _
theorem bs_int (x : Int) (w : World) : Calls Tryz.prog 136 #[.slice none 0 0, .int .i64 x] w fun e w' => e = .returned (.tuple #[.int .i64 0, .bool false]) ∧ Below w.heap.size w w' := by
  refine (PB.slices_BinarySearch_int_int.calls 1 none 0 [] x 0 false w (Kd.C_nil _ _) (Nat.le_refl _) ?_).mono (fun e w' h => ⟨h.1, ?_⟩)
  · unfold PB.slices_BinarySearch_int_int.f PB.slices_BinarySearch_int_int.l0
    rfl
  · obtain ⟨n, rfl⟩ := h.2
    exact bel_drewN _ _
set_option maxRecDepth 100000 in
theorem full_coo (k : Nat) (vV : Value) (w : World) (h : w.heap[k]? = some (.cells #[.slice none 0 0, vV, .slice none 0 0] 231 (0, 0))) : Calls Tryz.prog 194 #[.pointer (some ⟨k, 0, none⟩)] w fun e w' => e = .returned (.bool false) ∧ w = w' := by
  have c0 := (blk_cell h 0).trans rfl
  clear h
  go_enter Tryz.func194, Tryz.ntmps194
  go_wp2
  go_ret
  exact ⟨rfl, rfl⟩
set_option maxRecDepth 100000 in
set_option maxHeartbeats 4000000 in
theorem put_coo (d : Nat) (s : ByteArray) (id c : Int) (v0 v1 v4 : Value) (w : World) (h : w.heap[d]? = some (.cells #[v0, v1, .pointer none, .int .i64 0, v4] 103 (0, 0))) :
    Calls Tryz.prog 151 #[.pointer (some ⟨d, 2, none⟩), .int .i64 c, .string s] w fun e w' => e = .returned (.tuple #[]) ∧ ∃ kn vK vV, w'.heap[d]? = some (.cells #[v0, v1, .pointer (some ⟨kn, 0, none⟩), .int .i64 1, v4] 103 (0, 0)) ∧ w'.heap[kn]? = some (.cells #[vK, vV, .slice none 0 0] 231 (0, 0)) ∧ w'.ownsRow 0 3 1 vK 1 [.int .i64 c] ∧ w'.ownsRow 0 9 1 vV 1 [.string s] ∧ Kp [d] w w' := by
  have HD := Aside0.mk h
  have HKP := Aside0.mk (Kp.refl [d] w)
  have d0 := (blk_cell h 2).trans rfl
  have hsn := fun w : World => run_neq_slice_nil_any (P := Tryz.prog) w 229 99 none 0 0 0 0 Tryz.underlying229
  simp only [Option.isNone_none, Bool.not_true] at hsn
  clear h
  go_enter Tryz.func151, Tryz.ntmps151
  go_upto_region 2 with (first
    | ((with_reducible refine gate_dst (N := 18) rfl ?_); refine Lb.alloc_event ?hg (v := fun g => .pointer (some ⟨g, 0, none⟩)) (cs := #[.slice none 0 0, .slice none 0 0, .slice none 0 0]) (t := 231) (fr := (0, 0)) ?hr ?_; (case hg => rfl); (case hr => first | (go_simp; done) | (go_simp; rfl)); intro kn hg5 w2 hx hb; have HN := Aside0.mk hx; have HNEW := Aside0.mk (show w.heap.size ≤ kn by have := HKP.out.size; omega); replace HD := Aside0.mk (Lb.blk_below HD.out hb); replace HKP := Aside0.mk (HKP.out.trans (Kp.of hb)); clear hx hb hg5 d0)
    | ((with_reducible refine gate_store (t := 99) (p := 20) rfl ?_); refine Lb.store_one rfl rfl 99 (.tmp 20) (.tmp 18) rfl (g := d) (off := 2) (u := .pointer (some ⟨kn, 0, none⟩)) rfl rfl rfl rfl HD.out (by kernel_rfl) (show 2 < 5 by decide) ?_; intro w3 hb hg; replace HN := Aside0.mk (Lb.blk_grown' HN.out hg (ne_type HN.out HD.out (by decide)));  replace HKP := Aside0.mk (HKP.out.trans (Kp.blk HD.out (.inr (.inr rfl)) hg)); replace HD : Aside0 (w3.heap[d]? = some (.cells #[v0, v1, .pointer (some ⟨kn, 0, none⟩), .int .i64 0, v4] 103 (0, 0))) := ⟨hb⟩; clear hb hg; have d0 := (blk_cell HD.out 2).trans rfl; have n0 := (blk_cell HN.out 0).trans rfl; have n1 := (blk_cell HN.out 1).trans rfl; have n2 := (blk_cell HN.out 2).trans rfl))
  go_upto_region 5 with (first
    | (go_at_call 194; (with_reducible refine (full_coo kn _ _ HN.out).mono ?_); rintro e4 w4 ⟨rfl, rfl⟩))
  go_wp2_with fail
  go_loopg [6] 1 (fun gk s6 wr => s6 = .pointer (some ⟨kn, 0, none⟩) ∧ w3 = wr)
  case atStart => exact ⟨rfl, rfl⟩
  case round =>
    obtain ⟨rfl, rfl⟩ := hrel
    go_wp2_with (first
      | (go_at_call 136; (with_reducible refine (bs_int c _).mono ?_); rintro e5 w5 ⟨rfl, hb⟩; replace HD := Aside0.mk (Lb.blk_below HD.out hb); replace HKP := Aside0.mk (HKP.out.trans (Kp.of hb)); replace HN := Aside0.mk (Lb.blk_below HN.out hb); clear n0 n1 n2; have n0 := (blk_cell HN.out 0).trans rfl; have n1 := (blk_cell HN.out 1).trans rfl; have n2 := (blk_cell HN.out 2).trans rfl; clear hb)
      | ((with_reducible refine gate_dst (N := 104) rfl ?_); refine Lb.alloc_event ?hg (v := fun g => .slice (some ⟨g, 0, none⟩) 1 1) (cs := #[.int .i64 c]) (t := 3) (fr := (0, 0)) ?hr ?_; (case hg => rfl); (case hr => first | (go_simp; done) | (go_simp; rfl)); intro g104 hg5 w6 hx hb; have HS := Aside0.mk hx; replace HD := Aside0.mk (Lb.blk_below HD.out hb); replace HKP := Aside0.mk (HKP.out.trans (Kp.of hb)); replace HN := Aside0.mk (Lb.blk_below HN.out hb); clear n0 n1 n2; have n0 := (blk_cell HN.out 0).trans rfl; have n1 := (blk_cell HN.out 1).trans rfl; have n2 := (blk_cell HN.out 2).trans rfl; clear hx hb hg5)
      | (go_at_call 196; (with_reducible refine (ins_int g104 c _ HS.out).mono ?_); rintro e6 w8 ⟨vK, rfl, ho, hb⟩; have HOK := Aside0.mk (own_zero ho); replace HD := Aside0.mk (Lb.blk_below HD.out hb); replace HKP := Aside0.mk (HKP.out.trans (Kp.of hb)); replace HN := Aside0.mk (Lb.blk_below HN.out hb); clear n0 n1 n2; have n0 := (blk_cell HN.out 0).trans rfl; have n1 := (blk_cell HN.out 1).trans rfl; have n2 := (blk_cell HN.out 2).trans rfl; clear hb ho)
      | ((with_reducible refine gate_store (t := 25) (p := 107) rfl ?_); refine Lb.store_one rfl rfl 25 (.tmp 107) (.tmp 105) rfl (g := kn) (off := 0) (u := vK) rfl rfl (own_cells HOK.out).1 (own_cells HOK.out).2 HN.out (by kernel_rfl) (show 0 < 3 by decide) ?_; intro w7 hb hg; replace HD := Aside0.mk (Lb.blk_grown' HD.out hg (ne_type HD.out HN.out (by decide))); replace HOK := Aside0.mk (own_blk HOK.out HN.out hg (by decide));  replace HKP := Aside0.mk (HKP.out.new hg HNEW.out); replace HN : Aside0 (w7.heap[kn]? = some (.cells #[vK, .slice none 0 0, .slice none 0 0] 231 (0, 0))) := ⟨hb⟩; clear hb hg n0 n1 n2; have n0 := (blk_cell HN.out 0).trans rfl; have n1 := (blk_cell HN.out 1).trans rfl; have n2 := (blk_cell HN.out 2).trans rfl)
      | ((with_reducible refine gate_dst (N := 115) rfl ?_); refine Lb.alloc_event ?hg (v := fun g => .slice (some ⟨g, 0, none⟩) 1 1) (cs := #[.string s]) (t := 9) (fr := (0, 0)) ?hr ?_; (case hg => rfl); (case hr => first | (go_simp; done) | (go_simp; rfl)); intro g115 hg5 w6 hx hb; have HS2 := Aside0.mk hx; replace HD := Aside0.mk (Lb.blk_below HD.out hb); replace HKP := Aside0.mk (HKP.out.trans (Kp.of hb)); replace HN := Aside0.mk (Lb.blk_below HN.out hb); replace HOK := Aside0.mk (own_step HOK.out hb); clear n0 n1 n2; have n0 := (blk_cell HN.out 0).trans rfl; have n1 := (blk_cell HN.out 1).trans rfl; have n2 := (blk_cell HN.out 2).trans rfl; clear hx hb hg5)
      | (go_at_call 192; (with_reducible refine (ins_str g115 s _ HS2.out).mono ?_); rintro e6 w8 ⟨vV, rfl, ho, hb⟩; have HOV := Aside0.mk (own_zero ho); replace HD := Aside0.mk (Lb.blk_below HD.out hb); replace HKP := Aside0.mk (HKP.out.trans (Kp.of hb)); replace HN := Aside0.mk (Lb.blk_below HN.out hb); replace HOK := Aside0.mk (own_step HOK.out hb); clear n0 n1 n2; have n0 := (blk_cell HN.out 0).trans rfl; have n1 := (blk_cell HN.out 1).trans rfl; have n2 := (blk_cell HN.out 2).trans rfl; clear hb ho)
      | ((with_reducible refine gate_store (t := 49) (p := 118) rfl ?_); refine Lb.store_one rfl rfl 49 (.tmp 118) (.tmp 116) rfl (g := kn) (off := 1) (u := vV) rfl rfl (own_cells HOV.out).1 (own_cells HOV.out).2 HN.out (by kernel_rfl) (show 1 < 3 by decide) ?_; intro w9 hb hg; replace HD := Aside0.mk (Lb.blk_grown' HD.out hg (ne_type HD.out HN.out (by decide))); replace HOK := Aside0.mk (own_blk HOK.out HN.out hg (by decide)); replace HOV := Aside0.mk (own_blk HOV.out HN.out hg (by decide)); replace HKP := Aside0.mk (HKP.out.new hg HNEW.out); replace HN : Aside0 (w9.heap[kn]? = some (.cells #[vK, vV, .slice none 0 0] 231 (0, 0))) := ⟨hb⟩; clear hb hg n0 n1 n2; have d1 := (blk_cell HD.out 3).trans rfl)
      | ((with_reducible refine gate_store (t := 3) (p := 125) rfl ?_); refine Lb.store_one rfl rfl 3 (.tmp 125) (.tmp 123) rfl (g := d) (off := 3) (u := .int .i64 1) rfl rfl rfl rfl HD.out (by kernel_rfl) (show 3 < 5 by decide) ?_; intro w10 hb hg; replace HN := Aside0.mk (Lb.blk_grown' HN.out hg (ne_type HN.out HD.out (by decide))); replace HOK := Aside0.mk (own_blk HOK.out HD.out hg (by decide)); replace HOV := Aside0.mk (own_blk HOV.out HD.out hg (by decide)); replace HKP := Aside0.mk (HKP.out.trans (Kp.blk HD.out (.inr (.inr rfl)) hg)); replace HD : Aside0 (w10.heap[d]? = some (.cells #[v0, v1, .pointer (some ⟨kn, 0, none⟩), .int .i64 1, v4] 103 (0, 0))) := ⟨hb⟩; clear hb hg))
    go_end0
    exact ⟨rfl, kn, vK, vV, HD.out, HN.out, HOK.out, HOV.out, HKP.out⟩
set_option maxRecDepth 100000 in
theorem full_nam (k : Nat) (vV : Value) (w : World) (h : w.heap[k]? = some (.cells #[.slice none 0 0, vV, .slice none 0 0] 219 (0, 0))) : Calls Tryz.prog 190 #[.pointer (some ⟨k, 0, none⟩)] w fun e w' => e = .returned (.bool false) ∧ w = w' := by
  have c0 := (blk_cell h 0).trans rfl
  clear h
  go_enter Tryz.func190, Tryz.ntmps190
  go_wp2
  go_ret
  exact ⟨rfl, rfl⟩
set_option maxRecDepth 100000 in
set_option maxHeartbeats 4000000 in
theorem put_nam (d : Nat) (s : ByteArray) (id c : Int) (v2 v3 v4 : Value) (w : World) (h : w.heap[d]? = some (.cells #[.pointer none, .int .i64 0, v2, v3, v4] 103 (0, 0))) :
    Calls Tryz.prog 150 #[.pointer (some ⟨d, 0, none⟩), .string s, .agg #[.string s, .int .i64 id, .int .i64 c]] w fun e w' => e = .returned (.tuple #[]) ∧ ∃ kn vK vV, w'.heap[d]? = some (.cells #[.pointer (some ⟨kn, 0, none⟩), .int .i64 1, v2, v3, v4] 103 (0, 0)) ∧ w'.heap[kn]? = some (.cells #[vK, vV, .slice none 0 0] 219 (0, 0)) ∧ w'.ownsRow 0 9 1 vK 1 [.string s] ∧ w'.ownsRow 0 108 3 vV 1 [.string s, .int .i64 id, .int .i64 c] ∧ Kp [d] w w' := by
  have HD := Aside0.mk h
  have HKP := Aside0.mk (Kp.refl [d] w)
  have d0 := (blk_cell h 0).trans rfl
  have hsn := fun w : World => run_neq_slice_nil_any (P := Tryz.prog) w 217 96 none 0 0 0 0 Tryz.underlying217
  simp only [Option.isNone_none, Bool.not_true] at hsn
  clear h
  go_enter Tryz.func150, Tryz.ntmps150
  go_upto_region 3 with (first
    | ((with_reducible refine gate_dst (N := 5) rfl ?_); refine Lb.alloc_event ?hg (v := fun g => .pointer (some ⟨g, 0, none⟩)) (cs := #[.string s, .int .i64 id, .int .i64 c]) (t := 108) (fr := (0, 0)) ?hr ?_; (case hg => rfl); (case hr => first | (go_simp; done) | (go_simp; rfl)); intro g5 hg5 w1 hx hb; have HX := Aside0.mk hx; replace HD := Aside0.mk (Lb.blk_below HD.out hb); replace HKP := Aside0.mk (HKP.out.trans (Kp.of hb)); clear hx hb hg5 d0; have d0 := (blk_cell HD.out 0).trans rfl)
    | ((with_reducible refine gate_dst (N := 18) rfl ?_); refine Lb.alloc_event ?hg (v := fun g => .pointer (some ⟨g, 0, none⟩)) (cs := #[.slice none 0 0, .slice none 0 0, .slice none 0 0]) (t := 219) (fr := (0, 0)) ?hr ?_; (case hg => rfl); (case hr => first | (go_simp; done) | (go_simp; rfl)); intro kn hg5 w2 hx hb; have HN := Aside0.mk hx; have HNEW := Aside0.mk (show w.heap.size ≤ kn by have := HKP.out.size; omega); replace HD := Aside0.mk (Lb.blk_below HD.out hb); replace HKP := Aside0.mk (HKP.out.trans (Kp.of hb)); replace HX := Aside0.mk (Lb.blk_below HX.out hb); clear hx hb hg5 d0)
    | ((with_reducible refine gate_store (t := 96) (p := 20) rfl ?_); refine Lb.store_one rfl rfl 96 (.tmp 20) (.tmp 18) rfl (g := d) (off := 0) (u := .pointer (some ⟨kn, 0, none⟩)) rfl rfl rfl rfl HD.out (by kernel_rfl) (show 0 < 5 by decide) ?_; intro w3 hb hg; replace HN := Aside0.mk (Lb.blk_grown' HN.out hg (ne_type HN.out HD.out (by decide))); replace HX := Aside0.mk (Lb.blk_grown' HX.out hg (ne_type HX.out HD.out (by decide))); replace HKP := Aside0.mk (HKP.out.trans (Kp.blk HD.out (.inr (.inr rfl)) hg)); replace HD : Aside0 (w3.heap[d]? = some (.cells #[.pointer (some ⟨kn, 0, none⟩), .int .i64 0, v2, v3, v4] 103 (0, 0))) := ⟨hb⟩; clear hb hg; have d0 := (blk_cell HD.out 0).trans rfl; have n0 := (blk_cell HN.out 0).trans rfl; have n1 := (blk_cell HN.out 1).trans rfl; have n2 := (blk_cell HN.out 2).trans rfl))
  go_upto_region 6 with (first
    | (go_at_call 190; (with_reducible refine (full_nam kn _ _ HN.out).mono ?_); rintro e4 w4 ⟨rfl, rfl⟩))
  go_wp2_with fail
  go_loopg [6] 1 (fun gk s6 wr => s6 = .pointer (some ⟨kn, 0, none⟩) ∧ w3 = wr)
  case atStart => exact ⟨rfl, rfl⟩
  case round =>
    obtain ⟨rfl, rfl⟩ := hrel
    go_upto_region 16 with (first
      | (go_at_call 120; (with_reducible refine (bs_str s _).mono ?_); rintro e5 w5 ⟨rfl, hb⟩; replace HD := Aside0.mk (Lb.blk_below HD.out hb); replace HKP := Aside0.mk (HKP.out.trans (Kp.of hb)); replace HN := Aside0.mk (Lb.blk_below HN.out hb); replace HX := Aside0.mk (Lb.blk_below HX.out hb); clear n0 n1 n2; have n0 := (blk_cell HN.out 0).trans rfl; have n1 := (blk_cell HN.out 1).trans rfl; have n2 := (blk_cell HN.out 2).trans rfl; (try clear x0 x1 x2); have x0 := (blk_cell HX.out 0).trans rfl; have x1 := (blk_cell HX.out 1).trans rfl; have x2 := (blk_cell HX.out 2).trans rfl; clear hb)
      | ((with_reducible refine gate_dst (N := 104) rfl ?_); refine Lb.alloc_event ?hg (v := fun g => .slice (some ⟨g, 0, none⟩) 1 1) (cs := #[.string s]) (t := 9) (fr := (0, 0)) ?hr ?_; (case hg => rfl); (case hr => first | (go_simp; done) | (go_simp; rfl)); intro g104 hg5 w6 hx hb; have HS := Aside0.mk hx; replace HD := Aside0.mk (Lb.blk_below HD.out hb); replace HKP := Aside0.mk (HKP.out.trans (Kp.of hb)); replace HN := Aside0.mk (Lb.blk_below HN.out hb); replace HX := Aside0.mk (Lb.blk_below HX.out hb); clear n0 n1 n2; have n0 := (blk_cell HN.out 0).trans rfl; have n1 := (blk_cell HN.out 1).trans rfl; have n2 := (blk_cell HN.out 2).trans rfl; (try clear x0 x1 x2); have x0 := (blk_cell HX.out 0).trans rfl; have x1 := (blk_cell HX.out 1).trans rfl; have x2 := (blk_cell HX.out 2).trans rfl; clear hx hb hg5)
      | (go_at_call 192; (with_reducible refine (ins_str g104 s _ HS.out).mono ?_); rintro e6 w8 ⟨vK, rfl, ho, hb⟩; have HOK := Aside0.mk (own_zero ho); replace HD := Aside0.mk (Lb.blk_below HD.out hb); replace HKP := Aside0.mk (HKP.out.trans (Kp.of hb)); replace HN := Aside0.mk (Lb.blk_below HN.out hb); replace HX := Aside0.mk (Lb.blk_below HX.out hb); clear n0 n1 n2; have n0 := (blk_cell HN.out 0).trans rfl; have n1 := (blk_cell HN.out 1).trans rfl; have n2 := (blk_cell HN.out 2).trans rfl; (try clear x0 x1 x2); have x0 := (blk_cell HX.out 0).trans rfl; have x1 := (blk_cell HX.out 1).trans rfl; have x2 := (blk_cell HX.out 2).trans rfl; clear hb ho)
      | ((with_reducible refine gate_store (t := 49) (p := 107) rfl ?_); refine Lb.store_one rfl rfl 49 (.tmp 107) (.tmp 105) rfl (g := kn) (off := 0) (u := vK) rfl rfl (own_cells HOK.out).1 (own_cells HOK.out).2 HN.out (by kernel_rfl) (show 0 < 3 by decide) ?_; intro w7 hb hg; replace HD := Aside0.mk (Lb.blk_grown' HD.out hg (ne_type HD.out HN.out (by decide))); replace HOK := Aside0.mk (own_blk HOK.out HN.out hg (by decide)); replace HX := Aside0.mk (Lb.blk_grown' HX.out hg (ne_type HX.out HN.out (by decide))); (try clear x0 x1 x2); have x0 := (blk_cell HX.out 0).trans rfl; have x1 := (blk_cell HX.out 1).trans rfl; have x2 := (blk_cell HX.out 2).trans rfl; replace HKP := Aside0.mk (HKP.out.new hg HNEW.out); replace HN : Aside0 (w7.heap[kn]? = some (.cells #[vK, .slice none 0 0, .slice none 0 0] 219 (0, 0))) := ⟨hb⟩; clear hb hg n0 n1 n2; have n0 := (blk_cell HN.out 0).trans rfl; have n1 := (blk_cell HN.out 1).trans rfl; have n2 := (blk_cell HN.out 2).trans rfl))
    have n1a : ∀ o : Obj, (w7.alloc o).cell? ⟨kn, 1, none⟩ = some (.slice none 0 0) := fun o => (blk_cell (Lb.blk_below HN.out (below_alloc (Below.refl _ _) o)) 1).trans rfl
    go_region_with (first
      | (go_at_call 193; (with_reducible refine (ins_ent _ s id c _ (draw2 w7 #[.string s, .int .i64 id, .int .i64 c] 108).blk).mono ?_); rintro e6 w8 ⟨vV, rfl, ho, hb⟩; obtain ⟨AV, cV, rfl, -⟩ := own_slice ho; have hb2 := (draw2 w7 #[.string s, .int .i64 id, .int .i64 c] 108).bel; have HOV := Aside0.mk (own_zero ho); replace HD := Aside0.mk (Lb.blk_below (Lb.blk_below HD.out hb2) hb); replace HN := Aside0.mk (Lb.blk_below (Lb.blk_below HN.out hb2) hb); replace HOK := Aside0.mk (own_step (own_step HOK.out hb2) hb); replace HKP := Aside0.mk ((HKP.out.trans (Kp.of hb2)).trans (Kp.of hb)); have n1 := (blk_cell HN.out 1).trans rfl; have f1 := blk_frozen HN.out 1; clear hb ho hb2))
    all_goals
      have hsb := Lb.setCell_block w8 kn 1 _ _ (.slice AV 1 cV) HN.out
      have hsg := Lb.setCell_grown w8 kn 1 _ _ (.slice AV 1 cV) HN.out
      generalize w8.setCell ⟨kn, 1, none⟩ (.slice AV 1 cV) = w9 at hsb hsg ⊢
      replace HD := Aside0.mk (Lb.blk_grown' HD.out hsg (ne_type HD.out HN.out (by decide)))
      replace HOK := Aside0.mk (own_blk HOK.out HN.out hsg (by decide))
      replace HOV := Aside0.mk (own_blk HOV.out HN.out hsg (by decide))
      replace HKP := Aside0.mk (HKP.out.new hsg HNEW.out)
      replace HN : Aside0 (w9.heap[kn]? = some (.cells #[vK, .slice AV 1 cV, .slice none 0 0] 219 (0, 0))) := ⟨hsb⟩
      clear hsb hsg
      have d1 := (blk_cell HD.out 1).trans rfl
      go_wp2_with (first
        | ((with_reducible refine gate_store (t := 3) (p := 125) rfl ?_); refine Lb.store_one rfl rfl 3 (.tmp 125) (.tmp 123) rfl (g := d) (off := 1) (u := .int .i64 1) rfl rfl rfl rfl HD.out (by kernel_rfl) (show 1 < 5 by decide) ?_; intro w10 hb hg; replace HN := Aside0.mk (Lb.blk_grown' HN.out hg (ne_type HN.out HD.out (by decide))); replace HOK := Aside0.mk (own_blk HOK.out HD.out hg (by decide)); replace HOV := Aside0.mk (own_blk HOV.out HD.out hg (by decide)); replace HKP := Aside0.mk (HKP.out.trans (Kp.blk HD.out (.inr (.inr rfl)) hg)); replace HD : Aside0 (w10.heap[d]? = some (.cells #[.pointer (some ⟨kn, 0, none⟩), .int .i64 1, v2, v3, v4] 103 (0, 0))) := ⟨hb⟩; clear hb hg))
      go_end0
      exact ⟨rfl, kn, vK, _, HD.out, HN.out, HOK.out, HOV.out, HKP.out⟩
end Go.Proofs.YtlnfadlgjcnngaaGreat.Co
