/- Events for walks by hand: a new block for any value; append where there is room. -/
import Derived.Test.YtlnfadlgjcnngaaGreatLib
import Derived.ArgAppend
import Derived.Laws.IdiomStrings
namespace Go.Proofs.YtlnfadlgjcnngaaGreat.Lb
open Go.RowKit Go.Proofs.YtlnfadlgjcnngaaGreatW.PrintWords Go.Proofs.YtlnfadlgjcnngaaGreatW.PrintLast Go.Proofs.YtlnfadlgjcnngaaGreatW.PrintMore

section
variable {P : Program} {ops : Array Oper} {rest : List Oper} {o : Oper} {a : Act} {Q : Exit → Act → World → Prop}
theorem alloc_event {W : World} (hgd : o.guard = none) {v : Nat → Value} {cs : Array Value} {t : TypeId} {fr : Nat × Nat}
    (hrun : (execOp a.eval o).run P W = .ok (.value (v W.heap.size)) (W.alloc (.cells cs t fr)))
    (h : ∀ g, g = W.heap.size → ∀ w1, w1.heap[g]? = some (.cells cs t fr) → Below W.heap.size W w1 → wpList P ops Q rest (a.put o.dst (v g)) w1) : wpList P ops Q (o :: rest) a W :=
  Kd.event_run hgd hrun (h _ rfl _ (blk_new W _) (below_alloc (Below.refl _ _) _))

theorem drew_alloc_event {W : World} (hgd : o.guard = none) {v : Nat → Value} {cs : Array Value} {t : TypeId} {fr : Nat × Nat}
    (hrun : (execOp a.eval o).run P W = .ok (.value (v W.heap.size)) (W.drew.alloc (.cells cs t fr)))
    (h : ∀ g, g = W.heap.size → ∀ w1, w1.heap[g]? = some (.cells cs t fr) → Below W.heap.size W w1 → wpList P ops Q rest (a.put o.dst (v g)) w1) : wpList P ops Q (o :: rest) a W :=
  Kd.event_run hgd hrun (h _ rfl _ (blk_new W.drew _) ⟨rfl, rfl, rfl, by simp, fun k hk => heap_alloc_old W.drew _ hk⟩)

/-- '[]byte(s)' -/
theorem bytes_event {W : World} (hgd : o.guard = none) (src dst e : TypeId) (s : ByteArray) (x : Operand) (ho : o.op = .convert src dst x) (hx : a.eval x = .string s)
    (hs : P.underlying src = some .string) (hd : P.underlying dst = some (.slice e)) (he : P.underlying e = some (.int .u8))
    (h : ∀ g cap row fr w1, g = W.heap.size → w1.heap[g]? = some (.cells row e fr) → (∀ (j : Nat) x, s.data.toList[j]? = some x → row[j]? = some (.int .u8 (x.toNat : Int))) → Below W.heap.size W w1 → wpList P ops Q rest (a.put o.dst (.slice (some ⟨g, 0, none⟩) s.size cap)) w1) :
    wpList P ops Q (o :: rest) a W := by
  refine wpList_plain hgd fun K hK => ?_
  have hrun := run_bytes_of_string (P := P) W src dst e s hs hd he
  unfold Oper.wp
  simp only [execOp, ho, hx, Sem.run_bind, hrun, Result.andThen_ok, Sem.run_pure]
  refine hK _ _ (h _ _ _ _ _ rfl (blk_new W.drew _) (fun j x hj => ?_) ⟨rfl, rfl, rfl, by simp, fun k hk => heap_alloc_old W.drew _ hk⟩)
  have hj' : j < s.data.size := by have := (List.getElem?_eq_some_iff.1 hj).1; simpa using this
  rw [bytesRow_at s _ j hj']
  have := (List.getElem?_eq_some_iff.1 hj).2
  rw [← this]
  simp

/-- append of one cell where there is room -/
theorem append_one_room {W : World} (hgd : o.guard = none) (s x : Operand) (t : TypeId) (ho : o.op = .call { callee := .builtin .append, args := #[s, x], argTypes := #[t, t] })
    (e : TypeId) (h1 : P.underlying t = some (.slice e)) (hsz : (P.info? e).map (·.size) = some 1)
    {b n cap : Nat} (hs : a.eval s = .slice (some ⟨b, 0, none⟩) n cap) {ad : Addr} {c : Nat} {u : Value} (hx : a.eval x = .slice (some ad) 1 c) (hc : W.cell? ad = some u) (h1c : u.oneCell' = true)
    (hroom : n + 1 ≤ cap) {cur : Array Value} {te : TypeId} (hb : W.heap[b]? = some (.cells cur te (0, 0))) (hcur : n < cur.size)
    (h : ∀ w1, w1.heap[b]? = some (.cells (cur.setIfInBounds n u) te (0, 0)) → W.grownBy w1 (some b) → wpList P ops Q rest (a.put o.dst (.slice (some ⟨b, 0, none⟩) (n + 1) cap)) w1) : wpList P ops Q (o :: rest) a W := by
  obtain ⟨i, hi, hz⟩ := Option.map_eq_some_iff.1 hsz
  have hz' : i.size = 1 := hz
  have hrun := run_append_room_cells (P := P) W t o.type e i h1 hi b 0 n cap ad 1 c [u] (by rw [hz']; rfl) (fun j v hj => by
      have e0 : j = 0 := by have := (List.getElem?_eq_some_iff.1 hj).1; simpa using this
      subst e0
      simp at hj
      subst hj
      have e2 : ad.add 0 = ad := by unfold Addr.add; split <;> simp_all
      rw [e2]; exact hc) (fun v hv => by simp at hv; subst hv; exact h1c) hroom
    (fun j hj => by have e0 : j = 0 := by simpa using hj
                    subst e0; rw [hz']; simp [World.cell?, hb]; omega) (fun j hj => by have e0 : j = 0 := by simpa using hj
                                                                                       subst e0; rw [hz']; simp [World.frozen?, hb])
  rw [hz'] at hrun
  simp only [Nat.mul_one, Nat.zero_add] at hrun
  obtain ⟨cur', h3, h4, h5⟩ := setCells_row [u] n W cur hb (by simp; omega)
  obtain ⟨s1, s2, s3, s4⟩ := setCells_same b [u] n W
  have e1 : cur' = cur.setIfInBounds n u := by
    apply Array.toList_inj.1
    rw [h5, Array.toList_setIfInBounds, List.set_eq_take_append_cons_drop, if_pos (by simpa using hcur)]
    simp
  refine wpList_plain hgd fun K hK => ?_
  unfold Oper.wp
  simp only [execOp, ho, resolve, invoke, builtin, Sem.run_bind, Sem.run_pure, Result.andThen_ok, List.map_toArray, List.map_cons, List.map_nil, hs, hx, hrun]
  exact hK _ _ (h _ (by rw [← e1]; exact h3) ⟨s1, s2, s3, by rw [s4]; exact Nat.le_refl _, fun k _ hk => setCells_far [u] n k (fun e => hk (by rw [e]))⟩)
end
theorem setCell_block (w : World) (g i : Nat) (cur : Array Value) (t : TypeId) (v : Value) (h : w.heap[g]? = some (.cells cur t (0, 0))) : (w.setCell ⟨g, i, none⟩ v).heap[g]? = some (.cells (cur.setIfInBounds i v) t (0, 0)) := by
  rw [setCell_eq_setRow w g i cur t (0, 0) v h]
  exact setRow_heap w g cur _ t (0, 0) h

theorem setCell_grown (w : World) (g i : Nat) (cur : Array Value) (t : TypeId) (v : Value) (h : w.heap[g]? = some (.cells cur t (0, 0))) : w.grownBy (w.setCell ⟨g, i, none⟩ v) (some g) := by
  rw [setCell_eq_setRow w g i cur t (0, 0) v h]
  exact ⟨rfl, rfl, rfl, by simp [World.setRow], fun k _ hk => setRow_other w g k _ (fun e => hk (by rw [e]))⟩

theorem grown_trans {a b c : World} {r : Option Nat} (h : a.grownBy b r) (k : b.grownBy c r) : a.grownBy c r :=
  ⟨k.os.trans h.os, k.tape.trans h.tape, k.output.trans h.output, Nat.le_trans h.size k.size, fun i hi hn => (k.block i (Nat.lt_of_lt_of_le hi h.size) hn).trans (h.block i hi hn)⟩
theorem below_drew (w : World) : Below w.heap.size w w.drew := ⟨rfl, rfl, rfl, Nat.le_refl _, fun _ _ => rfl⟩
theorem drew_below {W w4 : World} (h : Below W.drew.heap.size W.drew w4) : Below W.heap.size W w4 := ⟨h.os, h.tape, h.output, h.size, fun k hk => h.block k hk⟩

theorem own_some {w : World} {B e n : Nat} {v : Value} {xs : List Value} (h : w.ownsRow B e 1 v n xs) (hn : 0 < n) : ∃ k cap, v = .slice (some ⟨k, 0, none⟩) n cap := by
  obtain ⟨_, h2⟩ := h
  rcases h2 with ⟨_, h2⟩ | ⟨k, cap, row, e, _⟩
  · omega
  · exact ⟨k, cap, e⟩
end Go.Proofs.YtlnfadlgjcnngaaGreat.Lb
