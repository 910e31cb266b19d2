/- caller of layer 13's law: a caller, with groups of his own. -/
import Derived.Test.YtlnfadlgjcnngaaGreatQ40
import Derived.ArgAppend
namespace Go.Proofs.YtlnfadlgjcnngaaGreat.Co
open Go.RowKit Go.Maps Go.Lib Go.Proofs.YtlnfadlgjcnngaaGreat.Ap Go.Proofs.YtlnfadlgjcnngaaGreatW.PrintWords Go.Proofs.YtlnfadlgjcnngaaGreatW.PrintLast Go.Proofs.YtlnfadlgjcnngaaGreatW.PrintMore
set_option linter.unusedVariables false
set_option linter.unusedSimpArgs false

/-- append([]int{}, l...) -/
theorem app_ints (w : World) (k : Nat) (hk : w.heap[k]? = some (.cells #[] 3 (0, 0))) (A : Option Addr) (n c : Nat) (l : List Int) (hR : Kd.C (Kd.int .i64) w A n l) (hn : n ≤ 1000000000) :
    ∃ A1 c1 w1, (Builtin.append_ #[25, 25] 25 #[.slice (some ⟨k, 0, none⟩) 0 0, .slice A n c]).run Tryz.prog w = .ok (.slice A1 n c1) w1 ∧ Below w.heap.size w w1 := by
  obtain ⟨i, hi, hzz⟩ := Option.map_eq_some_iff.1 int_info
  simp only [Prod.mk.injEq] at hzz
  obtain ⟨h1, h2, h3⟩ := hR
  rcases Nat.eq_zero_or_pos n with rfl | hp
  · refine ⟨some ⟨k, 0, none⟩, 0, w, ?_, Below.refl _ _⟩
    cases A <;> simp [Builtin.append_, run_underlying Tryz.underlying25, sizeOf, typeInfo, hi, Builtin.lenOf, Builtin.firstCells, storeCells, loadCells, loadCellsFrom, Sem.run, Result.andThen]
  · obtain ⟨ad, rfl, hc⟩ := h3 hp
    obtain ⟨v, w1, hrun, hown, hg⟩ := run_append_arg_grows (P := Tryz.prog) w 25 25 3 i (.int .i64 0) 1 8 Tryz.underlying25 hi hzz.1 hzz.2.1 hzz.2.2 rfl (by decide) ⟨k, 0, none⟩ 0 0 [] rfl (fun j u hj => by simp at hj) ad n c (l.map (.int .i64)) (by simp [h1]) (fun j u hj => by
      rw [List.getElem?_map, Option.map_eq_some_iff] at hj
      obtain ⟨x, hx, rfl⟩ := hj
      obtain ⟨cs, hl, hk1, hcc⟩ := hc j x hx
      have hk2 : cs = [.int .i64 x] := hk1
      subst hk2
      have e : j * (Kd.int .i64).sz + 0 = j := by show j * 1 + 0 = j; omega
      have := hcc 0 (.int .i64 x) rfl
      rw [e] at this
      exact this) (by omega) (by unfold maxLen; omega) (by omega)
    obtain ⟨A1, c1, rfl, _⟩ := own_slice hown
    refine ⟨A1, c1, w1, by simpa using hrun, ?_⟩
    exact (Below.refl _ w).grown hg (Nat.le_refl _) (fun k hk => by cases hk)
/-- an append whose run is known, as a step of a region that draws -/
theorem step_append_run {P : Program} {ops : Array Oper} {o : Oper} {a : Act} {Q : Exit → Act → World → Prop} {K : Act → World → Prop} {E' : Prop} {W w1 : World} {v1 : Value} (hgd : o.guard = none) (s x : Operand) (t : TypeId) (ho : o.op = .call { callee := .builtin .append, args := #[s, x], argTypes := #[t, t] }) {vs vx : Value}
    (hs : a.eval s = vs) (hx : a.eval x = vx) (hrun : (Builtin.append_ #[t, t] o.type #[vs, vx]).run P W = .ok v1 w1) (h : K (a.put o.dst v1) w1) : if Region.wanted o (yielded ops a.tmps) = true then Oper.wp P o a W K Q else E' := by
  rw [if_pos (show Region.wanted o (yielded ops a.tmps) = true by simp [Region.wanted, hgd])]
  unfold Oper.wp
  simp [execOp, ho, resolve, invoke, builtin, hs, hx, hrun, Result.andThen]
  exact h
theorem chain4 {w : World} {b : Nat} {t : TypeId} {a0 a1 a2 a3 : Value} (h : w.heap[b]? = some (.cells #[a0, a1, a2, a3] t (0, 0))) (v0 v1 v2 v3 : Value) :
    ((((w.setCell ⟨b, 0, none⟩ v0).setCell ⟨b, 1, none⟩ v1).setCell ⟨b, 2, none⟩ v2).setCell ⟨b, 3, none⟩ v3).heap[b]? = some (.cells #[v0, v1, v2, v3] t (0, 0)) ∧ w.grownBy ((((w.setCell ⟨b, 0, none⟩ v0).setCell ⟨b, 1, none⟩ v1).setCell ⟨b, 2, none⟩ v2).setCell ⟨b, 3, none⟩ v3) (some b) := by
  have h0 := Lb.setCell_block w b 0 _ _ v0 h
  have h1 := Lb.setCell_block _ b 1 _ _ v1 h0
  have h2 := Lb.setCell_block _ b 2 _ _ v2 h1
  have h3 := Lb.setCell_block _ b 3 _ _ v3 h2
  exact ⟨h3, Lb.grown_trans (Lb.grown_trans (Lb.grown_trans (Lb.setCell_grown w b 0 _ _ _ h) (Lb.setCell_grown _ b 1 _ _ _ h0)) (Lb.setCell_grown _ b 2 _ _ _ h1)) (Lb.setCell_grown _ b 3 _ _ _ h2)⟩
theorem results_cell_cell {P : Program} {fn : Func} {p q : Tmp} {ty ty2 : TypeId} (h : fn.results = #[.cell p ty, .cell q ty2]) (tmps : Array Value) (w : World) (g g' : Nat) (t t' : TypeId) (cs cs' : Array Value) (fr fr' : Nat × Nat) (d d' : TypeDesc)
    (hp : tmps.getD p undef = .pointer (some ⟨g, 0, none⟩)) (hg : w.heap[g]? = some (.cells cs t fr))
    (hu : P.underlying ty = some d) (hd : (match d with | .struct _ | .array _ _ => true | _ => false) = true) (hi : (P.info? ty).map (·.size) = some cs.size)
    (hp' : tmps.getD q undef = .pointer (some ⟨g', 0, none⟩)) (hg' : w.heap[g']? = some (.cells cs' t' fr'))
    (hu' : P.underlying ty2 = some d') (hd' : (match d' with | .struct _ | .array _ _ => true | _ => false) = true) (hi' : (P.info? ty2).map (·.size) = some cs'.size) :
    (results fn tmps).run P w = .ok (.tuple #[.agg cs, .agg cs']) w := by
  have e1 : tmps[p]?.getD undef = .pointer (some ⟨g, 0, none⟩) := by simpa using hp
  have e2 : tmps[q]?.getD undef = .pointer (some ⟨g', 0, none⟩) := by simpa using hp'
  simp [results, h, e1, e2, asAddr, run_loadVar_row w g t ty cs fr d hg hu hd hi, run_loadVar_row w g' t' ty2 cs' fr' d' hg' hu' hd' hi']
abbrev refC (u g : Int) (A : Option Addr) (n c : Nat) (now : Int) : Array Value := #[.int .i64 u, .int .i64 g, .slice A n c, .int .i64 now]
set_option maxRecDepth 100000 in
set_option maxHeartbeats 4000000 in
theorem caller_calls (cs : Array Value) (u g now : Int) (A : Option Addr) (n c : Nat) (l : List Int) (w : World) (hz : cs.size = 27) (c22 : cs[22]? = some (.int .i64 u)) (c23 : cs[23]? = some (.int .i64 g)) (c24 : cs[24]? = some (.slice A n c)) (c25 : cs[25]? = some (.int .i64 now)) (hR : Kd.C (Kd.int .i64) w A n l) (hn : n ≤ 1000000000) :
    Calls Tryz.prog 15 #[.agg cs] w fun e w' => ∃ A1 c1, e = .returned (.tuple #[anyC u g A1 n c1 now, .agg (refC u g A n c now)]) ∧ Below w.heap.size w w' := by
  have HB := Aside0.mk (Below.refl w.heap.size w)
  have HC := Aside0.mk (And.intro c22 (And.intro c23 (And.intro c24 c25)))
  have HR := Aside0.mk hR
  have HZ := Aside0.mk hz
  have HN := Aside0.mk hn
  clear c22 c23 c24 c25 hR hz hn
  go_enter Tryz.func15, Tryz.ntmps15
  go_upto_region 1 with (first
    | ((with_reducible refine gate_dst (N := 1) rfl ?_); refine box_event ?hg (N := 1) ?hd (cs := cs) (t := 62) ?hr ?_; (case hd => rfl); (case hg => rfl); (case hr => first | (go_simp; done) | (go_simp; rfl)); intro g1 hg1 w1 hx hb; have HX := Aside0.mk hx; replace HR := Aside0.mk (Kd.C_below HR.out hb); replace HB := Aside0.mk (below_step HB.out hb); clear hx hb hg1)
    | ((with_reducible refine gate_dst (N := 2) rfl ?_); refine box_event ?hg (N := 2) ?hd (cs := #[.int .i64 0, .int .i64 0, .slice none 0 0, .int .i64 0]) (t := 29) ?hr ?_; (case hd => rfl); (case hg => rfl); (case hr => first | (go_simp; done) | (go_simp; rfl)); intro g2 hg2 w2 hx hb; have HY := Aside0.mk hx; have HG2 : Aside0 (w.heap.size ≤ g2) := ⟨by rw [hg2]; exact HB.out.size⟩; replace HX := Aside0.mk (Lb.blk_below HX.out hb); replace HR := Aside0.mk (Kd.C_below HR.out hb); replace HB := Aside0.mk (below_step HB.out hb); clear hx hb hg2)
    | ((with_reducible refine gate_dst (N := 3) rfl ?_); refine box_event ?hg (N := 3) ?hd (cs := #[.int .i64 0, .int .i64 0, .slice none 0 0, .int .i64 0]) (t := 64) ?hr ?_; (case hd => rfl); (case hg => rfl); (case hr => first | (go_simp; done) | (go_simp; rfl)); intro g3 hg3 w3 hx hb; have HW := Aside0.mk hx; have HG3 : Aside0 (w.heap.size ≤ g3) := ⟨by rw [hg3]; exact HB.out.size⟩; replace HX := Aside0.mk (Lb.blk_below HX.out hb); replace HY := Aside0.mk (Lb.blk_below HY.out hb); replace HR := Aside0.mk (Kd.C_below HR.out hb); replace HB := Aside0.mk (below_step HB.out hb); clear hx hb hg3))
  have hba : ∀ o, Below w3.heap.size w3 ((w3.alloc o).drew) := fun o => below_step (below_alloc (Below.refl _ _) o) (Lb.below_drew _)
  obtain ⟨A1, c1, w4, happ, hb4⟩ := app_ints ((w3.alloc (.cells #[] 3 (0, 0))).drew) w3.heap.size (by show ((w3.heap.push _)[w3.heap.size]? = _); simp) A n c l (Kd.C_below HR.out (hba _)) HN.out
  have hY4 := Lb.blk_below (Lb.blk_below HY.out (hba _)) hb4
  have hW4 := Lb.blk_below (Lb.blk_below HW.out (hba _)) hb4
  have hX4 := Lb.blk_below (Lb.blk_below HX.out (hba _)) hb4
  have hcells : ∀ W : World, W.heap[g1]? = some (.cells cs 62 (0, 0)) → W.cell? ⟨g1, 22, none⟩ = some (.int .i64 u) ∧ W.cell? ⟨g1, 23, none⟩ = some (.int .i64 g) ∧ W.cell? ⟨g1, 24, none⟩ = some (.slice A n c) ∧ W.cell? ⟨g1, 25, none⟩ = some (.int .i64 now) := fun W h => ⟨(blk_cell h 22).trans HC.out.1, (blk_cell h 23).trans HC.out.2.1, (blk_cell h 24).trans HC.out.2.2.1, (blk_cell h 25).trans HC.out.2.2.2⟩
  have hX1 := Lb.blk_below HX.out (Lb.below_drew w3)
  obtain ⟨x22, x23, x24, x25⟩ := hcells _ hX1
  have hne1 : ¬ g2 = g3 := ne_type hY4 hW4 (by decide)
  have hne2 : ¬ g3 = g2 := fun e => hne1 e.symm
  have f0 := blk_frozen hY4 0
  have f1 := blk_frozen hY4 1
  have f2 := blk_frozen hY4 2
  have f3 := blk_frozen hY4 3
  have k0 : w4.cell? ⟨g2, 0, none⟩ = some (.int .i64 0) := (blk_cell hY4 0).trans rfl
  have k1 : w4.cell? ⟨g2, 1, none⟩ = some (.int .i64 0) := (blk_cell hY4 1).trans rfl
  have k2 : w4.cell? ⟨g2, 2, none⟩ = some (.slice none 0 0) := (blk_cell hY4 2).trans rfl
  have k3 : w4.cell? ⟨g2, 3, none⟩ = some (.int .i64 0) := (blk_cell hY4 3).trans rfl
  have h0 := blk_frozen hW4 0
  have h1 := blk_frozen hW4 1
  have h2 := blk_frozen hW4 2
  have h3 := blk_frozen hW4 3
  have m0 : w4.cell? ⟨g3, 0, none⟩ = some (.int .i64 0) := (blk_cell hW4 0).trans rfl
  have m1 : w4.cell? ⟨g3, 1, none⟩ = some (.int .i64 0) := (blk_cell hW4 1).trans rfl
  have m2 : w4.cell? ⟨g3, 2, none⟩ = some (.slice none 0 0) := (blk_cell hW4 2).trans rfl
  have m3 : w4.cell? ⟨g3, 3, none⟩ = some (.int .i64 0) := (blk_cell hW4 3).trans rfl
  have hne3 : g1 ≠ g2 := ne_type hX4 hY4 (by decide)
  have hne4 : g1 ≠ g3 := ne_type hX4 hW4 (by decide)
  have hch := chain4 hY4 (.int .i64 u) (.int .i64 g) (.slice A1 n c1) (.int .i64 now)
  have hX5 := Lb.blk_grown' hX4 hch.2 hne3
  have hW5 := Lb.blk_grown' hW4 hch.2 hne2
  have hch2 := chain4 hW5 (.int .i64 u) (.int .i64 g) (.slice A n c) (.int .i64 now)
  have hX6 := Lb.blk_grown' hX5 hch2.2 hne4
  have hY6 := Lb.blk_grown' hch.1 hch2.2 hne1
  have HB4 := below_step (below_step HB.out (hba (.cells #[] 3 (0, 0)))) hb4
  have HB5 := Lb.grown_below HB4 hch.2 HB4.size HG2.out
  have HB6 := Aside0.mk (Lb.grown_below HB5 hch2.2 HB5.size HG3.out)
  have HY6 := Aside0.mk hY6
  have HW6 := Aside0.mk hch2.1
  have T0 := Lib.hid (hcells _ hX1)
  have T1 := Lib.hid (fun o => hcells _ (Lb.blk_below HX.out (hba o)))
  have T2 := Lib.hid (hcells _ hX4)
  have T3 := Lib.hid (hcells _ hX5)
  have T4 := Lib.hid (hcells _ hX6)
  clear hY4 hW4 hX4 hb4 hba hX1 hX5 hW5 hX6 hY6 HB4 HB5 hch hch2 hcells hne3 hne4
  go_region_held3 (fun w' => w'.cell? ⟨g1, 22, none⟩ = some (.int .i64 u) ∧ w'.cell? ⟨g1, 23, none⟩ = some (.int .i64 g) ∧ w'.cell? ⟨g1, 24, none⟩ = some (.slice A n c) ∧ w'.cell? ⟨g1, 25, none⟩ = some (.int .i64 now)) (first | (with_reducible exact T0.out) | (with_reducible exact T1.out _) | (with_reducible exact T2.out) | (with_reducible exact T3.out) | (with_reducible exact T4.out)) (refine step_append_run rfl (.tmp 10) (.tmp 13) 25 rfl rfl rfl happ ?_)
  go_wp2_with fail
  refine bodyPost_ret (results_cell_cell rfl _ _ g2 g3 29 64 _ _ (0, 0) (0, 0) _ _ rfl HY6.out Tryz.underlying29 rfl (by kernel_rfl) rfl HW6.out Tryz.underlying64 rfl (by kernel_rfl)) rfl ?_
  exact ⟨A1, c1, rfl, HB6.out⟩
end Go.Proofs.YtlnfadlgjcnngaaGreat.Co
