/- Events for walks by hand: a whole block made, a block stored into; the world behind is a letter of which the block, and that nothing else has turned, are known. -/
import Derived.Test.YtlnfadlgjcnngaaGreatWMore
import Derived.Lib.Hide
namespace Go.Proofs.YtlnfadlgjcnngaaGreat.Lb
open Go.RowKit Go.Proofs.YtlnfadlgjcnngaaGreatW.PrintWords Go.Proofs.YtlnfadlgjcnngaaGreatW.PrintLast Go.Proofs.YtlnfadlgjcnngaaGreatW.PrintMore

section
variable {P : Program} {ops : Array Oper} {rest : List Oper} {o : Oper} {a : Act} {Q : Exit → Act → World → Prop}
/-- a store into a block that is known whole: some of its cells from off on -/
theorem store_part {W : World} (hgd : o.guard = none) (hN : o.dst = none) (t : TypeId) (p x : Operand) (ho : o.op = .store t p x) {g off : Nat} {e : TypeId} {cur : Array Value} {u : Value} (seg : List Value)
    (haddr : a.eval p = .pointer (some ⟨g, off, none⟩)) (hx : a.eval x = u) (hu : u.cells.toList = seg) (hh : W.heap[g]? = some (.cells cur e (0, 0))) (ht : (P.info? t).map (·.size) = some seg.length)
    (hfit : off + seg.length ≤ cur.size) (h1 : ∀ q ∈ seg, q.oneCell' = true)
    (h : ∀ w1 cur', w1.heap[g]? = some (.cells cur' e (0, 0)) → cur'.toList = cur.toList.take off ++ seg ++ cur.toList.drop (off + seg.length) → W.grownBy w1 (some g) → wpList P ops Q rest a w1) : wpList P ops Q (o :: rest) a W := by
  obtain ⟨cur', h3, h4, h5⟩ := setCells_row seg off W cur hh hfit
  obtain ⟨s1, s2, s3, s4⟩ := setCells_same g seg off W
  refine wpList_plain hgd fun K hK => ?_
  have hrun : (Instr.storeAt t (.pointer (some ⟨g, off, none⟩)) u).run P W = .ok () (W.setCells g off seg) := run_store_run t u seg hh hu ht hfit h1
  unfold Oper.wp execOp
  simp only [ho, haddr, hx, Sem.run_bind, Sem.run_pure, Result.andThen_ok, hrun]
  show K (a.put o.dst undef) _
  rw [hN]
  exact hK a _ (h _ cur' h3 h5 ⟨s1, s2, s3, by rw [s4]; exact Nat.le_refl _, fun k _ hk => setCells_far seg off k (fun e => hk (by rw [e]))⟩)

/-- a store of one cell -/
theorem store_one {W : World} (hgd : o.guard = none) (hN : o.dst = none) (t : TypeId) (p x : Operand) (ho : o.op = .store t p x) {g off : Nat} {e : TypeId} {cur : Array Value} {u : Value}
    (haddr : a.eval p = .pointer (some ⟨g, off, none⟩)) (hx : a.eval x = u) (hu : u.cells = #[u]) (h1 : u.oneCell' = true) (hh : W.heap[g]? = some (.cells cur e (0, 0))) (ht : (P.info? t).map (·.size) = some 1)
    (hfit : off < cur.size) (h : ∀ w1, w1.heap[g]? = some (.cells (cur.setIfInBounds off u) e (0, 0)) → W.grownBy w1 (some g) → wpList P ops Q rest a w1) : wpList P ops Q (o :: rest) a W := by
  refine store_part hgd hN t p x ho (u := u) [u] haddr hx (by rw [hu]) hh (by rw [ht]; rfl) (by simp only [List.length_cons, List.length_nil]; omega) (by simpa using h1) fun w1 cur' hb hl hg => h w1 ?_ hg
  have e1 : cur' = cur.setIfInBounds off u := by
    apply Array.toList_inj.1
    rw [hl, Array.toList_setIfInBounds, List.set_eq_take_append_cons_drop, if_pos (by simpa using hfit)]
    simp
  rw [← e1]
  exact hb

/-- a store of a whole block -/
theorem store_whole {W : World} (hgd : o.guard = none) (hN : o.dst = none) (t : TypeId) (p x : Operand) (ho : o.op = .store t p x) {g : Nat} {e : TypeId} {cur new : Array Value}
    (haddr : a.eval p = .pointer (some ⟨g, 0, none⟩)) (hx : a.eval x = .agg new) (hh : W.heap[g]? = some (.cells cur e (0, 0))) (hs : new.size = cur.size) (ht : (P.info? t).map (·.size) = some new.size)
    (h1 : ∀ q ∈ new.toList, q.oneCell' = true)
    (h : ∀ w1, w1.heap[g]? = some (.cells new e (0, 0)) → W.grownBy w1 (some g) → wpList P ops Q rest a w1) : wpList P ops Q (o :: rest) a W := by
  refine store_part hgd hN t p x ho (u := .agg new) new.toList haddr hx rfl hh (by rw [ht]; simp) (by simp [hs]) h1 fun w1 cur' hb hl hg => h w1 ?_ hg
  have e1 : cur' = new := by
    apply Array.toList_inj.1
    rw [hl]
    have : cur.toList.drop (0 + new.toList.length) = [] := List.drop_eq_nil_of_le (by simp [hs])
    rw [this]
    simp
  rw [← e1]
  exact hb
end

theorem grown_below {B : Nat} {w0 W w1 : World} {g : Nat} (h : Below B w0 W) (hg : W.grownBy w1 (some g)) (hB : B ≤ W.heap.size) (hBg : B ≤ g) : Below B w0 w1 :=
  h.grown hg hB fun k hk => by injection hk with e; omega

theorem blk_grown' {w w1 : World} {g g' : Nat} {o : Obj} (h : w.heap[g]? = some o) (hg : w.grownBy w1 (some g')) (hne : g ≠ g') : w1.heap[g]? = some o := blk_grown h hg (fun e => hne (by injection e))
theorem blk_below {w w1 : World} {g : Nat} {o : Obj} (h : w.heap[g]? = some o) (hb : Below w.heap.size w w1) : w1.heap[g]? = some o := (hb.block g (blk_lt h)).trans h
theorem R_grown {α : Type} {d : Kd α} {e : Nat} {w w1 : World} {base : Nat} {ok : Nat → Prop} {v : Value} {xs : List α} {g t : Nat} {cells : Array Value} (h : d.R e w base ok v xs) (hg : w.grownBy w1 (some g))
    (hb : w.heap[g]? = some (.cells cells t (0, 0))) (ht : ∀ q, q ∈ e :: d.E → q ≠ t) : d.R e w1 base ok v xs :=
  Kd.R_mono (Kd.R_grown (Kd.R_types h hb ht) hg (fun _ hk e => hk.2 (by injection e))) (fun _ hk => hk.1)
end Go.Proofs.YtlnfadlgjcnngaaGreat.Lb
