/- Clone: rows of one element, a directory's trees, a directory. -/
import Derived.Test.YtlnfadlgjcnngaaGreatQ08
namespace Go.Proofs.YtlnfadlgjcnngaaGreat.Co
open Go.RowKit Go.Maps Go.Lib Go.Proofs.YtlnfadlgjcnngaaGreat.Ap Go.Proofs.YtlnfadlgjcnngaaGreatW.PrintWords Go.Proofs.YtlnfadlgjcnngaaGreatW.PrintLast Go.Proofs.YtlnfadlgjcnngaaGreatW.PrintMore
set_option linter.unusedVariables false
set_option linter.unusedSimpArgs false
theorem own_one {w : World} {e sz : Nat} {v : Value} {xs : List Value} (h : w.ownsRow 0 e sz v 1 xs) : ∃ k cap row, v = .slice (some ⟨k, 0, none⟩) 1 cap ∧ w.heap[k]? = some (.cells row e (0, 0)) ∧ ∀ (j : Nat) u, xs[j]? = some u → row[j]? = some u := by
  obtain ⟨h1, h2⟩ := h
  rcases h2 with ⟨_, h3⟩ | ⟨k, cap, row, e1, _, hr, hn, hm, hs, ht⟩
  · omega
  · refine ⟨k, cap, row, e1, hr, fun j u hj => ?_⟩
    rw [← ht, List.getElem?_take] at hj
    split at hj
    · simpa using hj
    · cases hj
theorem add_off (k j : Nat) : (⟨k, 0, none⟩ : Addr).add j = ⟨k, j, none⟩ := by unfold Addr.add; split <;> simp_all
theorem nil_str (ad : Addr) (n c : Nat) (w : World) : (binOp .eql 49 (.slice (some ad) n c) (.slice none 0 0)).run Tryz.prog w = .ok (.bool false) w := by kernel_rfl
set_option maxRecDepth 100000 in
theorem clone_str (v : Value) (xs : List Value) (w : World) (h : w.ownsRow 0 9 1 v 1 xs) (h1 : ∀ u ∈ xs, u.oneCell' = true) :
    Calls Tryz.prog 126 #[v] w fun e w' => ∃ v', e = .returned v' ∧ w'.ownsRow w.heap.size 9 1 v' 1 xs ∧ Below w.heap.size w w' := by
  have HL : Aside0 (xs.length = 1 * 1) := ⟨h.1⟩
  obtain ⟨k, cap, row, rfl, hr, hc⟩ := own_one h
  have HR := Aside0.mk hr
  have HC := Aside0.mk hc
  have HON := Aside0.mk h1
  have hq := nil_str ⟨k, 0, none⟩ 1 cap
  clear h hr hc h1
  go_enter Tryz.func126, Tryz.ntmps126
  go_wp2_with (first
    | ((with_reducible refine gate_dst (N := 5) rfl ?_); refine Lb.alloc_event ?hg (v := fun g => .slice (some ⟨g, 0, none⟩) 0 0) (cs := #[]) (t := 9) (fr := (0, 0)) ?hr ?_; (case hg => rfl); (case hr => first | (go_simp; done) | (go_simp; rfl)); intro g4 hg4 w4 hx4 hb4; have HX4 := Aside0.mk hx4; have HB4 := Aside0.mk hb4; have HG4 := Aside0.mk hg4; clear hx4 hb4 hg4 hq)
    | ((with_reducible refine gate_dst (N := 7) rfl ?_); obtain ⟨i, hi, hzz⟩ := Option.map_eq_some_iff.1 str_info; simp only [Prod.mk.injEq] at hzz; refine wpList_append_own w4 rfl (.tmp 5) (.tmp 6) 49 rfl w.heap.size 9 i (.string ⟨#[]⟩) 1 16 Tryz.underlying49 hi hzz.1 hzz.2.1 hzz.2.2 rfl (by decide) (.slice (some ⟨g4, 0, none⟩) 0 0) 0 [] rfl ⟨rfl, .inr ⟨g4, 0, #[], rfl, (by have := HG4.out; omega), HX4.out, Nat.le_refl _, (by decide), rfl, rfl⟩⟩ ⟨k, 0, none⟩ 1 cap xs rfl HL.out (fun j u hj => by rw [add_off]; exact (blk_cell (Lb.blk_below HR.out HB4.out) j).trans (HC.out j u hj)) HON.out (by unfold maxLen; omega) (by omega) HB4.out.size ?_; intro v5 w5 ho5 hg5 _; have HO5 := Aside0.mk ho5; have HB5 : Aside0 (Below w.heap.size w w5) := ⟨HB4.out.grown hg5 HB4.out.size (fun k hk => by injection hk with hk; have := HG4.out; have e : g4 = k := hk; omega)⟩; clear ho5 hg5 hi hzz))
  go_ret
  have ho := HO5.out
  rw [Nat.zero_add, List.nil_append] at ho
  exact ⟨v5, rfl, ho, HB5.out⟩
theorem nil_ent (ad : Addr) (n c : Nat) (w : World) : (binOp .eql 69 (.slice (some ad) n c) (.slice none 0 0)).run Tryz.prog w = .ok (.bool false) w := by kernel_rfl
set_option maxRecDepth 100000 in
theorem clone_ent (v : Value) (xs : List Value) (w : World) (h : w.ownsRow 0 108 3 v 1 xs) (h1 : ∀ u ∈ xs, u.oneCell' = true) :
    Calls Tryz.prog 127 #[v] w fun e w' => ∃ v', e = .returned v' ∧ w'.ownsRow w.heap.size 108 3 v' 1 xs ∧ Below w.heap.size w w' := by
  have HL : Aside0 (xs.length = 1 * 3) := ⟨h.1⟩
  obtain ⟨k, cap, row, rfl, hr, hc⟩ := own_one h
  have HR := Aside0.mk hr
  have HC := Aside0.mk hc
  have HON := Aside0.mk h1
  have hq := nil_ent ⟨k, 0, none⟩ 1 cap
  clear h hr hc h1
  go_enter Tryz.func127, Tryz.ntmps127
  go_wp2_with (first
    | ((with_reducible refine gate_dst (N := 5) rfl ?_); refine Lb.alloc_event ?hg (v := fun g => .slice (some ⟨g, 0, none⟩) 0 0) (cs := #[]) (t := 108) (fr := (0, 0)) ?hr ?_; (case hg => rfl); (case hr => first | (go_simp; done) | (go_simp; rfl)); intro g4 hg4 w4 hx4 hb4; have HX4 := Aside0.mk hx4; have HB4 := Aside0.mk hb4; have HG4 := Aside0.mk hg4; clear hx4 hb4 hg4 hq)
    | ((with_reducible refine gate_dst (N := 7) rfl ?_); obtain ⟨i, hi, hzz⟩ := Option.map_eq_some_iff.1 ent_info; simp only [Prod.mk.injEq] at hzz; refine wpList_append_own w4 rfl (.tmp 5) (.tmp 6) 69 rfl w.heap.size 108 i (.agg #[.string ⟨#[]⟩, .int .i64 0, .int .i64 0]) 3 32 Tryz.underlying69 hi hzz.1 hzz.2.1 hzz.2.2 rfl (by decide) (.slice (some ⟨g4, 0, none⟩) 0 0) 0 [] rfl ⟨rfl, .inr ⟨g4, 0, #[], rfl, (by have := HG4.out; omega), HX4.out, Nat.le_refl _, (by decide), rfl, rfl⟩⟩ ⟨k, 0, none⟩ 1 cap xs rfl HL.out (fun j u hj => by rw [add_off]; exact (blk_cell (Lb.blk_below HR.out HB4.out) j).trans (HC.out j u hj)) HON.out (by unfold maxLen; omega) (by omega) HB4.out.size ?_; intro v5 w5 ho5 hg5 _; have HO5 := Aside0.mk ho5; have HB5 : Aside0 (Below w.heap.size w w5) := ⟨HB4.out.grown hg5 HB4.out.size (fun k hk => by injection hk with hk; have := HG4.out; have e : g4 = k := hk; omega)⟩; clear ho5 hg5 hi hzz))
  go_ret
  have ho := HO5.out
  rw [Nat.zero_add, List.nil_append] at ho
  exact ⟨v5, rfl, ho, HB5.out⟩
theorem nil_int (ad : Addr) (n c : Nat) (w : World) : (binOp .eql 25 (.slice (some ad) n c) (.slice none 0 0)).run Tryz.prog w = .ok (.bool false) w := by kernel_rfl
set_option maxRecDepth 100000 in
theorem clone_int (v : Value) (xs : List Value) (w : World) (h : w.ownsRow 0 3 1 v 1 xs) (h1 : ∀ u ∈ xs, u.oneCell' = true) :
    Calls Tryz.prog 128 #[v] w fun e w' => ∃ v', e = .returned v' ∧ w'.ownsRow w.heap.size 3 1 v' 1 xs ∧ Below w.heap.size w w' := by
  have HL : Aside0 (xs.length = 1 * 1) := ⟨h.1⟩
  obtain ⟨k, cap, row, rfl, hr, hc⟩ := own_one h
  have HR := Aside0.mk hr
  have HC := Aside0.mk hc
  have HON := Aside0.mk h1
  have hq := nil_int ⟨k, 0, none⟩ 1 cap
  clear h hr hc h1
  go_enter Tryz.func128, Tryz.ntmps128
  go_wp2_with (first
    | ((with_reducible refine gate_dst (N := 5) rfl ?_); refine Lb.alloc_event ?hg (v := fun g => .slice (some ⟨g, 0, none⟩) 0 0) (cs := #[]) (t := 3) (fr := (0, 0)) ?hr ?_; (case hg => rfl); (case hr => first | (go_simp; done) | (go_simp; rfl)); intro g4 hg4 w4 hx4 hb4; have HX4 := Aside0.mk hx4; have HB4 := Aside0.mk hb4; have HG4 := Aside0.mk hg4; clear hx4 hb4 hg4 hq)
    | ((with_reducible refine gate_dst (N := 7) rfl ?_); obtain ⟨i, hi, hzz⟩ := Option.map_eq_some_iff.1 int_info; simp only [Prod.mk.injEq] at hzz; refine wpList_append_own w4 rfl (.tmp 5) (.tmp 6) 25 rfl w.heap.size 3 i (.int .i64 0) 1 8 Tryz.underlying25 hi hzz.1 hzz.2.1 hzz.2.2 rfl (by decide) (.slice (some ⟨g4, 0, none⟩) 0 0) 0 [] rfl ⟨rfl, .inr ⟨g4, 0, #[], rfl, (by have := HG4.out; omega), HX4.out, Nat.le_refl _, (by decide), rfl, rfl⟩⟩ ⟨k, 0, none⟩ 1 cap xs rfl HL.out (fun j u hj => by rw [add_off]; exact (blk_cell (Lb.blk_below HR.out HB4.out) j).trans (HC.out j u hj)) HON.out (by unfold maxLen; omega) (by omega) HB4.out.size ?_; intro v5 w5 ho5 hg5 _; have HO5 := Aside0.mk ho5; have HB5 : Aside0 (Below w.heap.size w w5) := ⟨HB4.out.grown hg5 HB4.out.size (fun k hk => by injection hk with hk; have := HG4.out; have e : g4 = k := hk; omega)⟩; clear ho5 hg5 hi hzz))
  go_ret
  have ho := HO5.out
  rw [Nat.zero_add, List.nil_append] at ho
  exact ⟨v5, rfl, ho, HB5.out⟩
set_option maxRecDepth 100000 in
theorem twin_nam (kn : Nat) (vK vV : Value) (xs ys : List Value) (w : World) (h : w.heap[kn]? = some (.cells #[vK, vV, .slice none 0 0] 219 (0, 0))) (hk : w.ownsRow 0 9 1 vK 1 xs) (hv : w.ownsRow 0 108 3 vV 1 ys) (h1 : ∀ u ∈ xs, u.oneCell' = true) (h2 : ∀ u ∈ ys, u.oneCell' = true) :
    Calls Tryz.prog 85 #[.pointer (some ⟨kn, 0, none⟩)] w fun e w' => ∃ k, e = .returned (.pointer (some ⟨k, 0, none⟩)) ∧ Below w.heap.size w w' := by
  obtain ⟨A1, q1, rfl, -⟩ := own_slice hk
  obtain ⟨A2, q2, rfl, -⟩ := own_slice hv
  have HN := Aside0.mk (Lb.blk_below h (Lb.below_drew w))
  have HK := Aside0.mk (own_step hk (Lb.below_drew w))
  have HV := Aside0.mk (own_step hv (Lb.below_drew w))
  have HB := Aside0.mk (Lb.below_drew w)
  have H1 := Aside0.mk h1
  have H2 := Aside0.mk h2
  have hsn := fun w : World => run_neq_slice_nil_any (P := Tryz.prog) w 217 96 none 0 0 0 0 Tryz.underlying217
  clear h hk hv h1 h2 hsn
  go_enter Tryz.func85, Tryz.ntmps85
  go_wp2
  have c0 : w.drew.cell? ⟨kn, 0, none⟩ = some (.slice A1 1 q1) := (blk_cell HN.out 0).trans rfl
  have c1 : w.drew.cell? ⟨kn, 1, none⟩ = some (.slice A2 1 q2) := (blk_cell HN.out 1).trans rfl
  go_region_held3 (fun w' => w'.cell? ⟨kn, 0, none⟩ = some (.slice A1 1 q1) ∧ w'.cell? ⟨kn, 1, none⟩ = some (.slice A2 1 q2)) (first | exact ⟨(blk_cell HN.out 0).trans rfl, (blk_cell HN.out 1).trans rfl⟩ | exact ⟨(blk_cell (Lb.blk_below HN.out (below_alloc (Below.refl _ _) _)) 0).trans rfl, (blk_cell (Lb.blk_below HN.out (below_alloc (Below.refl _ _) _)) 1).trans rfl⟩) (first
    | (go_at_call 126; (with_reducible refine (clone_str _ xs _ HK.out H1.out).mono ?_); rintro e4 w4 ⟨v4, rfl, ho, hb⟩; obtain ⟨A4, q4, rfl, -⟩ := own_slice ho; replace HB := Aside0.mk (below_step HB.out hb); replace HN := Aside0.mk (Lb.blk_below HN.out hb); (try replace HV := Aside0.mk (own_step HV.out hb)); clear ho hb)
    | (go_at_call 127; (with_reducible refine (clone_ent _ ys _ HV.out H2.out).mono ?_); rintro e5 w5 ⟨v5, rfl, ho, hb⟩; obtain ⟨A5, q5, rfl, -⟩ := own_slice ho; replace HB := Aside0.mk (below_step HB.out hb); replace HN := Aside0.mk (Lb.blk_below HN.out hb); (try replace HK := Aside0.mk (own_step HK.out hb)); clear ho hb))
  clear c0 c1
  have c2 : (w5.alloc (.cells #[.slice A4 1 q4, .slice A5 1 q5, .slice none 0 0] 219)).cell? ⟨kn, 2, none⟩ = some (.slice none 0 0) := (blk_cell (Lb.blk_below HN.out (below_alloc (Below.refl _ _) _)) 2).trans rfl
  go_wp2
  refine wp_loop_rounds 1 ?_
  rw [rounds_succ]
  go_wp2_with fail
  go_ret
  exact ⟨_, rfl, below_alloc HB.out _⟩
set_option maxRecDepth 100000 in
theorem twin_coo (kn : Nat) (vK vV : Value) (xs ys : List Value) (w : World) (h : w.heap[kn]? = some (.cells #[vK, vV, .slice none 0 0] 231 (0, 0))) (hk : w.ownsRow 0 3 1 vK 1 xs) (hv : w.ownsRow 0 9 1 vV 1 ys) (h1 : ∀ u ∈ xs, u.oneCell' = true) (h2 : ∀ u ∈ ys, u.oneCell' = true) :
    Calls Tryz.prog 86 #[.pointer (some ⟨kn, 0, none⟩)] w fun e w' => ∃ k, e = .returned (.pointer (some ⟨k, 0, none⟩)) ∧ Below w.heap.size w w' := by
  obtain ⟨A1, q1, rfl, -⟩ := own_slice hk
  obtain ⟨A2, q2, rfl, -⟩ := own_slice hv
  have HN := Aside0.mk (Lb.blk_below h (Lb.below_drew w))
  have HK := Aside0.mk (own_step hk (Lb.below_drew w))
  have HV := Aside0.mk (own_step hv (Lb.below_drew w))
  have HB := Aside0.mk (Lb.below_drew w)
  have H1 := Aside0.mk h1
  have H2 := Aside0.mk h2
  have hsn := fun w : World => run_neq_slice_nil_any (P := Tryz.prog) w 229 99 none 0 0 0 0 Tryz.underlying229
  clear h hk hv h1 h2 hsn
  go_enter Tryz.func86, Tryz.ntmps86
  go_wp2
  have c0 : w.drew.cell? ⟨kn, 0, none⟩ = some (.slice A1 1 q1) := (blk_cell HN.out 0).trans rfl
  have c1 : w.drew.cell? ⟨kn, 1, none⟩ = some (.slice A2 1 q2) := (blk_cell HN.out 1).trans rfl
  go_region_held3 (fun w' => w'.cell? ⟨kn, 0, none⟩ = some (.slice A1 1 q1) ∧ w'.cell? ⟨kn, 1, none⟩ = some (.slice A2 1 q2)) (first | exact ⟨(blk_cell HN.out 0).trans rfl, (blk_cell HN.out 1).trans rfl⟩ | exact ⟨(blk_cell (Lb.blk_below HN.out (below_alloc (Below.refl _ _) _)) 0).trans rfl, (blk_cell (Lb.blk_below HN.out (below_alloc (Below.refl _ _) _)) 1).trans rfl⟩) (first
    | (go_at_call 128; (with_reducible refine (clone_int _ xs _ HK.out H1.out).mono ?_); rintro e4 w4 ⟨v4, rfl, ho, hb⟩; obtain ⟨A4, q4, rfl, -⟩ := own_slice ho; replace HB := Aside0.mk (below_step HB.out hb); replace HN := Aside0.mk (Lb.blk_below HN.out hb); (try replace HV := Aside0.mk (own_step HV.out hb)); clear ho hb)
    | (go_at_call 126; (with_reducible refine (clone_str _ ys _ HV.out H2.out).mono ?_); rintro e5 w5 ⟨v5, rfl, ho, hb⟩; obtain ⟨A5, q5, rfl, -⟩ := own_slice ho; replace HB := Aside0.mk (below_step HB.out hb); replace HN := Aside0.mk (Lb.blk_below HN.out hb); (try replace HK := Aside0.mk (own_step HK.out hb)); clear ho hb))
  clear c0 c1
  have c2 : (w5.alloc (.cells #[.slice A4 1 q4, .slice A5 1 q5, .slice none 0 0] 231)).cell? ⟨kn, 2, none⟩ = some (.slice none 0 0) := (blk_cell (Lb.blk_below HN.out (below_alloc (Below.refl _ _) _)) 2).trans rfl
  go_wp2
  refine wp_loop_rounds 1 ?_
  rw [rounds_succ]
  go_wp2_with fail
  go_ret
  exact ⟨_, rfl, below_alloc HB.out _⟩
end Go.Proofs.YtlnfadlgjcnngaaGreat.Co
