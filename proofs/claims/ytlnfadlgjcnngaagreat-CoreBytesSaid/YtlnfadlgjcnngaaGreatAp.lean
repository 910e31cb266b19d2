/- Events for appends to slices of the call's own; a world with one block more. -/
import Derived.Test.YtlnfadlgjcnngaaGreatProg
import Derived.Test.YtlnfadlgjcnngaaGreatEv
import Derived.RegionTactic
import Derived.KernelRfl
import Derived.Lib.SlBuf
import Derived.Laws.AppendOwn
import Derived.Deep.RegionLaw
namespace Go.Proofs.YtlnfadlgjcnngaaGreat.Ap
open Go.RowKit Go.Lib Go.Proofs.YtlnfadlgjcnngaaGreatW.PrintWords Go.Proofs.YtlnfadlgjcnngaaGreatW.PrintLast Go.Proofs.YtlnfadlgjcnngaaGreatW.PrintMore
set_option linter.unusedVariables false
set_option linter.unusedSimpArgs false

theorem own_keep {w w' : World} {B e n sz : Nat} {v : Value} {xs : List Value} (ho : w.ownsRow B e sz v n xs) (hk : ∀ (k : Nat) (cs : Array Value) (f : Nat × Nat), w.heap[k]? = some (.cells cs e f) → w'.heap[k]? = some (.cells cs e f)) : w'.ownsRow B e sz v n xs := by
  obtain ⟨h1, h2⟩ := ho
  refine ⟨h1, ?_⟩
  rcases h2 with h2 | ⟨k, cap, row, e2, hge, hr, rest⟩
  · exact .inl h2
  · exact .inr ⟨k, cap, row, e2, hge, hk _ _ _ hr, rest⟩
/-- a world with one block more -/
structure NewBlk (w W : World) (g : Nat) (cs : Array Value) (t : TypeId) : Prop where
  blk : W.heap[g]? = some (.cells cs t (0, 0))
  bel : Below w.heap.size w W
theorem draw1 (w : World) (cs : Array Value) (t : TypeId) : NewBlk w (w.drew.alloc (.cells cs t)) w.heap.size cs t := ⟨blk_new w.drew _, Lb.drew_below (below_alloc (Below.refl _ _) _)⟩
theorem draw2 (w : World) (cs : Array Value) (t : TypeId) : NewBlk w ((w.alloc (.cells cs t)).drew) w.heap.size cs t := ⟨blk_new w _, ⟨rfl, rfl, rfl, by simp, fun k hk => heap_alloc_old w _ hk⟩⟩

theorem types_of_grown {w w' : World} {B n e sz : Nat} {v : Value} {xs : List Value} (ho : w.ownsRow B e sz v n xs) (h : w.grownBy w' v.ownBlock) : ∀ (k : Nat) (cs : Array Value) (t' : TypeId) (f : Nat × Nat), t' ≠ e → w.heap[k]? = some (.cells cs t' f) → w'.heap[k]? = some (.cells cs t' f) := fun k cs t' f hne hk => by
  refine blk_grown hk h (fun e3 => ?_)
  obtain ⟨_, h2⟩ := ho
  rcases h2 with ⟨h2, _⟩ | ⟨q, cap, row, e2, hq, hr, _⟩
  · rw [h2] at e3; cases e3
  · rw [e2] at e3
    injection e3 with e3
    have e' : k = q := e3
    rw [← e', hk] at hr
    injection hr with hr
    injection hr with _ e4 _
    exact hne e4
theorem below_of_grown {B : Nat} {w0 w w' : World} {e n sz : Nat} {v : Value} {xs : List Value} (ho : w.ownsRow B e sz v n xs) (hb : Below B w0 w) (hB : B ≤ w.heap.size) (hg : w.grownBy w' v.ownBlock) : Below B w0 w' := by
  refine hb.grown hg hB (fun k hk => ?_)
  obtain ⟨_, h2⟩ := ho
  rcases h2 with ⟨h2, _⟩ | ⟨g, cap, row, e2, hge, _⟩
  · rw [h2] at hk; cases hk
  · rw [e2] at hk; injection hk with hk; have : g = k := hk; omega
theorem types_blk {w w' : World} {g : Nat} {cur : Array Value} {t : TypeId} {fr : Nat × Nat} (hb : w.heap[g]? = some (.cells cur t fr)) (h : w.grownBy w' (some g)) : ∀ (k : Nat) (cs : Array Value) (t' : TypeId) (f : Nat × Nat), t' ≠ t → w.heap[k]? = some (.cells cs t' f) → w'.heap[k]? = some (.cells cs t' f) := fun k cs t' f hne hk => by
  refine Lb.blk_grown' hk h (fun e => ?_)
  rw [e, hb] at hk
  injection hk with hk
  injection hk with _ e2 _
  exact hne e2.symm

/-- what an append of a row's cells to a slice of the call's own leaves -/
structure App (w0 w' : World) (B e sz : Nat) (v' : Value) (n : Nat) (xs : List Value) : Prop where
  own : w'.ownsRow B e sz v' n xs
  keep : ∀ (k : Nat) (cs : Array Value) (t' : TypeId) (f : Nat × Nat), t' ≠ e → w0.heap[k]? = some (.cells cs t' f) → w'.heap[k]? = some (.cells cs t' f)
  bel : Below B w0 w'
  size : w0.heap.size ≤ w'.heap.size

section
variable {ops : Array Oper} {rest : List Oper} {o : Oper} {a : Act} {Q : Exit → Act → World → Prop} {K : Act → World → Prop} {E' : Prop}
theorem app_of {w0 W w' : World} {g0 B e sz n m : Nat} {cs : Array Value} {te : TypeId} {v v' : Value} {xs ys : List Value} (hNB : NewBlk w0 W g0 cs te) (hown : w0.ownsRow B e sz v n xs) (hB : B ≤ w0.heap.size)
    (ho : W.ownsRow B e sz v n xs → (w'.ownsRow B e sz v' m ys ∧ W.grownBy w' v.ownBlock)) : App w0 w' B e sz v' m ys := by
  have hW := own_keep hown (fun k cs f hr => Lb.blk_below hr hNB.bel)
  obtain ⟨h1, h2⟩ := ho hW
  exact ⟨h1, fun k cs t' f hne hk => types_of_grown hW h2 k cs t' f hne (Lb.blk_below hk hNB.bel), below_of_grown hW (hNB.bel.mono hB) (Nat.le_trans hB hNB.bel.size) h2, Nat.le_trans hNB.bel.size h2.size⟩
/-- append of the cells of a block just made, m elements -/
theorem app_event {w0 W : World} {g0 : Nat} (hgd : o.guard = none) (s x : Operand) (ts e : TypeId) (z : Value) (sz nb : Nat) (ho : o.op = .call { callee := .builtin .append, args := #[s, x], argTypes := #[ts, ts] })
    (hu : Tryz.prog.underlying ts = some (.slice e)) (hinfo : ((Tryz.prog).info? e).map (fun i => (i.zero, i.size, i.bytes)) = some (some z, sz, nb)) (hz : z.cells.size = sz) (hsz : 0 < sz) (hnb : nb ≤ 64) {B n m : Nat} {v : Value} {xs news : List Value}
    (hs : a.eval s = v) (hown : w0.ownsRow B e sz v n xs) (hNB : NewBlk w0 W g0 news.toArray e) (hx : a.eval x = .slice (some ⟨g0, 0, none⟩) m m) (hl : news.length = m * sz) (h1 : ∀ u ∈ news, u.oneCell' = true) (hB : B ≤ w0.heap.size) (hlen : n + m ≤ 1000000000)
    (h : ∀ v' w', App w0 w' B e sz v' (n + m) (xs ++ news) → wpList Tryz.prog ops Q rest (a.put o.dst v') w') : wpList Tryz.prog ops Q (o :: rest) a W := by
  obtain ⟨i, hi, hzz⟩ := Option.map_eq_some_iff.1 hinfo
  simp only [Prod.mk.injEq] at hzz
  have hW := own_keep hown (fun k cs f hr => Lb.blk_below hr hNB.bel)
  refine wpList_append_own W hgd s x ts ho B e i z sz nb hu hi hzz.1 hzz.2.1 hzz.2.2 hz hsz v n xs hs hW ⟨g0, 0, none⟩ m m news hx hl ?_ h1 (by unfold maxLen; omega) (Nat.le_trans (Nat.mul_le_mul hlen hnb) (by omega)) (Nat.le_trans hB hNB.bel.size) ?_
  · intro j u hj
    have e2 : (⟨g0, 0, none⟩ : Addr).add j = ⟨g0, j, none⟩ := by unfold Addr.add; split <;> simp_all
    rw [e2, blk_cell hNB.blk j]
    simpa using hj
  · intro v' w' ho' hg _
    exact h v' w' (app_of hNB hown hB (fun _ => ⟨ho', hg⟩))
/-- the same as a step of a region that draws -/
theorem app_step {w0 W : World} {g0 : Nat} (hgd : o.guard = none) (s x : Operand) (ts e : TypeId) (z : Value) (sz nb : Nat) (ho : o.op = .call { callee := .builtin .append, args := #[s, x], argTypes := #[ts, ts] })
    (hu : Tryz.prog.underlying ts = some (.slice e)) (hinfo : ((Tryz.prog).info? e).map (fun i => (i.zero, i.size, i.bytes)) = some (some z, sz, nb)) (hz : z.cells.size = sz) (hsz : 0 < sz) (hnb : nb ≤ 64) {B n m : Nat} {v : Value} {xs news : List Value}
    (hs : a.eval s = v) (hown : w0.ownsRow B e sz v n xs) (hNB : NewBlk w0 W g0 news.toArray e) (hx : a.eval x = .slice (some ⟨g0, 0, none⟩) m m) (hl : news.length = m * sz) (h1 : ∀ u ∈ news, u.oneCell' = true) (hB : B ≤ w0.heap.size) (hlen : n + m ≤ 1000000000)
    (h : ∀ v' w', App w0 w' B e sz v' (n + m) (xs ++ news) → K (a.put o.dst v') w') : if Region.wanted o (yielded ops a.tmps) = true then Oper.wp Tryz.prog o a W K Q else E' := by
  rw [if_pos (show Region.wanted o (yielded ops a.tmps) = true by simp [Region.wanted, hgd])]
  obtain ⟨i, hi, hzz⟩ := Option.map_eq_some_iff.1 hinfo
  simp only [Prod.mk.injEq] at hzz
  have hW := own_keep hown (fun k cs f hr => Lb.blk_below hr hNB.bel)
  refine wp_append_own W s x ts ho B e i z sz nb hu hi hzz.1 hzz.2.1 hzz.2.2 hz hsz v n xs hs hW ⟨g0, 0, none⟩ m m news hx hl ?_ h1 (by unfold maxLen; omega) (Nat.le_trans (Nat.mul_le_mul hlen hnb) (by omega)) (Nat.le_trans hB hNB.bel.size) ?_
  · intro j u hj
    have e2 : (⟨g0, 0, none⟩ : Addr).add j = ⟨g0, j, none⟩ := by unfold Addr.add; split <;> simp_all
    rw [e2, blk_cell hNB.blk j]
    simpa using hj
  · intro v' w' ho' hg _
    exact h v' w' (app_of hNB hown hB (fun _ => ⟨ho', hg⟩))
end
end Go.Proofs.YtlnfadlgjcnngaaGreat.Ap
