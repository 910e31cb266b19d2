/- What is known while a file is added. -/
import Derived.Test.YtlnfadlgjcnngaaGreatQ09
namespace Go.Proofs.YtlnfadlgjcnngaaGreat.Co
open Go.RowKit Go.Maps Go.Lib Go.Proofs.YtlnfadlgjcnngaaGreat.Ap Go.Proofs.YtlnfadlgjcnngaaGreatW.PrintWords Go.Proofs.YtlnfadlgjcnngaaGreatW.PrintLast Go.Proofs.YtlnfadlgjcnngaaGreatW.PrintMore
set_option linter.unusedVariables false
set_option linter.unusedSimpArgs false

abbrev callC (now : Int) : Array Value := #[.int .i64 0, .int .i64 0, .slice none 0 0, .int .i64 now]
theorem FsAt.neN {w : World} {g bN bM : Nat} {last : Int} {F : Int → Option Nat} {m : Nat} (h : FsAt w g bN bM last F m) {k : Nat} {cs : Array Value} {t : TypeId} {f : Nat × Nat} (hk : w.heap[k]? = some (.cells cs t f)) : bN ≠ k ∧ bM ≠ k := by
  obtain ⟨_, ⟨es, cl, hb, _⟩, _⟩ := h.nodes
  obtain ⟨_, es', cl', hb', _⟩ := h.met
  refine ⟨?_, ?_⟩
  · rintro rfl; rw [hb] at hk; injection hk with hk; cases hk
  · rintro rfl; rw [hb'] at hk; injection hk with hk; cases hk
theorem FsAt.last' {w w' : World} {g bN bM : Nat} {last last' : Int} {F : Int → Option Nat} {m : Nat} (h : FsAt w g bN bM last F m) (hb : w'.heap[g]? = some (.cells #[.map (some bN), .int .i64 last', .map (some bM)] 94 (0, 0))) (hg : w.grownBy w' (some g)) : FsAt w' g bN bM last' F m := by
  have hk : Kp [g] w w' := Kp.blk h.blk (.inl rfl) hg
  obtain ⟨n1, n2⟩ := h.neN h.blk
  obtain ⟨D, hD, hF⟩ := h.nodes
  obtain ⟨D', hD'⟩ := h.met
  exact ⟨hb, ⟨D, ownsMap_kp hD hk (by simpa using n1), hF⟩, ⟨D', ownsMap_kp hD' hk (by simpa using n2)⟩, h.ne⟩
/-- a number is given to a node -/
def putF (F : Int → Option Nat) (i : Int) (b : Nat) : Int → Option Nat := fun j => if j = i then some b else F j
theorem FsAt.put {w w' : World} {g bN bM : Nat} {last : Int} {F : Int → Option Nat} {m : Nat} {D : DataW Unit} {i : Int} {b : Nat} (h : FsAt w g bN bM last F m) (hD : w.ownsMap Tryz.prog 3 ptrR bN m D) (hF : ∀ i, InI i → D.atKey (.int .i64 i) .nil = ptrD (F i))
    (ho : w'.ownsMap Tryz.prog 3 ptrR bN (m + 1) (D.put (.int .i64 i) (.lit (.int .i64 b)))) (hg : w.grownBy w' (some bN)) : FsAt w' g bN bM last (putF F i b) (m + 1) ∧ Kp [bN] w w' := by
  have hk : Kp [bN] w w' := by
    obtain ⟨es, cl, hb, _⟩ := hD
    exact Kp.map hb hg
  obtain ⟨n1, n2⟩ := h.neN h.blk
  obtain ⟨D', hD'⟩ := h.met
  refine ⟨⟨hk.keep _ _ h.blk (by simpa using fun e : g = bN => n1 e.symm), ⟨_, ho, fun j hj => ?_⟩, ⟨D', (ownsMap_kp hD' hk (by simpa using fun e : bM = bN => h.ne e.symm)).mono (Nat.le_succ _)⟩, h.ne⟩, hk⟩
  unfold putF
  by_cases e : j = i
  · subst e
    rw [Maps.atKey_put_same hD.isMap (show WideAt.IsKeyLit (.int .i64 j) from trivial), if_pos rfl]; rfl
  · rw [Maps.atKey_put_other (by intro e2; injection e2 with _ e2; exact e e2), if_neg e]; exact hF j hj

structure AD (w0 w : World) (g bN bM : Nat) (last : Int) (F : Int → Option Nat) (m b d : Nat) (p nn : Nd) (g7 g10 g11 : Nat) (now : Int) : Prop where
  fs : FsAt w g bN bM last F m
  par : NodeAt w b p
  dir : DirE w d
  nd : NodeAt w g10 nn
  cl : w.heap[g7]? = some (.cells (callC now) 29 (0, 0))
  st : w.heap[g11]? = some (.cells (setC false false 0 0) 36 (0, 0))
  kp : Kp [g, bN, bM, b, d] w0 w
  new : w0.heap.size ≤ g10
  lt : b < w0.heap.size
variable {w0 w w' : World} {g bN bM : Nat} {last last' : Int} {F : Int → Option Nat} {m b d : Nat} {p p' nn nn' : Nd} {g7 g10 g11 : Nat} {now : Int}
theorem AD.step (h : AD w0 w g bN bM last F m b d p nn g7 g10 g11 now) (hb : Below w.heap.size w w') : AD w0 w' g bN bM last F m b d p nn g7 g10 g11 now :=
  ⟨h.fs.step hb, Lb.blk_below h.par hb, Lb.blk_below h.dir hb, Lb.blk_below h.nd hb, Lb.blk_below h.cl hb, Lb.blk_below h.st hb, h.kp.trans (Kp.of hb), h.new, h.lt⟩
theorem AD.nds (h : AD w0 w g bN bM last F m b d p nn g7 g10 g11 now) (hb : NodeAt w' g10 nn') (hg : w.grownBy w' (some g10)) : AD w0 w' g bN bM last F m b d p nn' g7 g10 g11 now :=
  ⟨h.fs.node (Kp.blk h.nd (.inr (.inl rfl)) hg) h.nd, Lb.blk_grown' h.par hg (by have := h.new; have := h.lt; omega), Lb.blk_grown' h.dir hg (ne_type h.dir h.nd (by decide)), hb, Lb.blk_grown' h.cl hg (ne_type h.cl h.nd (by decide)), Lb.blk_grown' h.st hg (ne_type h.st h.nd (by decide)), h.kp.new hg h.new, h.new, h.lt⟩
theorem AD.lasts (h : AD w0 w g bN bM last F m b d p nn g7 g10 g11 now) (hb : w'.heap[g]? = some (.cells #[.map (some bN), .int .i64 last', .map (some bM)] 94 (0, 0))) (hg : w.grownBy w' (some g)) : AD w0 w' g bN bM last' F m b d p nn g7 g10 g11 now :=
  ⟨h.fs.last' hb hg, Lb.blk_grown' h.par hg (ne_type h.par h.fs.blk (by decide)), Lb.blk_grown' h.dir hg (ne_type h.dir h.fs.blk (by decide)), Lb.blk_grown' h.nd hg (ne_type h.nd h.fs.blk (by decide)), Lb.blk_grown' h.cl hg (ne_type h.cl h.fs.blk (by decide)), Lb.blk_grown' h.st hg (ne_type h.st h.fs.blk (by decide)),
    h.kp.trans ((Kp.blk h.fs.blk (.inl rfl) hg).mono (by simp)), h.new, h.lt⟩
theorem AD.pars (h : AD w0 w g bN bM last F m b d p nn g7 g10 g11 now) (hb : NodeAt w' b p') (hg : w.grownBy w' (some b)) : AD w0 w' g bN bM last F m b d p' nn g7 g10 g11 now :=
  ⟨h.fs.node (Kp.blk h.par (.inr (.inl rfl)) hg) h.par, hb, Lb.blk_grown' h.dir hg (ne_type h.dir h.par (by decide)), Lb.blk_grown' h.nd hg (by have := h.new; have := h.lt; omega), Lb.blk_grown' h.cl hg (ne_type h.cl h.par (by decide)), Lb.blk_grown' h.st hg (ne_type h.st h.par (by decide)),
    h.kp.trans ((Kp.blk h.par (.inr (.inl rfl)) hg).mono (by simp)), h.new, h.lt⟩
/-- a function that may have changed the new node alone -/
theorem AD.ndk (h : AD w0 w g bN bM last F m b d p nn g7 g10 g11 now) (hb : NodeAt w' g10 nn') (hk : Kp [g10] w w') : AD w0 w' g bN bM last F m b d p nn' g7 g10 g11 now :=
  ⟨h.fs.node hk h.nd, hk.keep _ _ h.par (by simp; have := h.new; have := h.lt; omega), hk.keep _ _ h.dir (by simpa using ne_type h.dir h.nd (by decide)), hb, hk.typ _ _ _ _ h.cl (by decide), hk.typ _ _ _ _ h.st (by decide), h.kp.then hk (fun i hi => .inr (by have := h.new; simp at hi; omega)), h.new, h.lt⟩
theorem AD.mapped {F' : Int → Option Nat} (h : AD w0 w g bN bM last F m b d p nn g7 g10 g11 now) (hf : FsAt w' g bN bM last F' (m + 1)) (hk : Kp [bN] w w') : AD w0 w' g bN bM last F' (m + 1) b d p nn g7 g10 g11 now :=
  have hn : ∀ (k : Nat) (cs : Array Value) (t : TypeId) (f : Nat × Nat), w.heap[k]? = some (.cells cs t f) → k ∉ [bN] := fun k cs t f hk' => by simpa using fun e : k = bN => (h.fs.neN hk').1 e.symm
  ⟨hf, hk.keep _ _ h.par (hn _ _ _ _ h.par), hk.keep _ _ h.dir (hn _ _ _ _ h.dir), hk.keep _ _ h.nd (hn _ _ _ _ h.nd), hk.keep _ _ h.cl (hn _ _ _ _ h.cl), hk.keep _ _ h.st (hn _ _ _ _ h.st), h.kp.trans (hk.mono (by simp)), h.new, h.lt⟩
theorem call_cells {w : World} {g : Nat} {now : Int} (h : w.heap[g]? = some (.cells (callC now) 29 (0, 0))) : w.cell? ⟨g, 0, none⟩ = some (.int .i64 0) ∧ w.cell? ⟨g, 1, none⟩ = some (.int .i64 0) ∧ w.cell? ⟨g, 2, none⟩ = some (.slice none 0 0) ∧ w.cell? ⟨g, 3, none⟩ = some (.int .i64 now) :=
  ⟨(blk_cell h 0).trans rfl, (blk_cell h 1).trans rfl, (blk_cell h 2).trans rfl, (blk_cell h 3).trans rfl⟩
end Go.Proofs.YtlnfadlgjcnngaaGreat.Co
