/- From the form's own reading of an argument to the words of the walk ('Kd'), whatever the kind: and how much the reading weighs. -/
import Derived.Test.YtlnfadlgjcnngaaGreatRows
import Derived.Test.YtlnfadlgjcnngaaGreatWMore
import Derived.Deep.Slices
import Derived.ChangeArms
namespace Go.Proofs.YtlnfadlgjcnngaaGreat.Op
open Go.RowKit Go.Proofs.YtlnfadlgjcnngaaGreatW.PrintWords Go.Proofs.YtlnfadlgjcnngaaGreatW.PrintLast Go.Proofs.YtlnfadlgjcnngaaGreatW.PrintMore Go.ChangeShapes Go.WideShapes Go.Deep

structure Opens {α : Type} (P : Program) (t : TypeId) (d : Kd α) (wt : α → Nat) (ok : α → Prop) : Prop where
  go : ∀ {H : Type} {enc : TypeId × Value → H} {w : World} {base : Nat} {spare : Nat → Bool} {held : Bool} {fuel : Nat} {cs : List Value} {x : DataW H × List MemPlace},
    DataW.trod enc P w base spare held fuel t cs = some x → ∃ v : α, d.K w v cs ∧ wt v ≤ Rows.uptoBulk x.1 ∧ ok v

variable {P : Program} {t e : TypeId}

theorem Opens.int {k : IntKind} (ht : P.underlying t = some (.int k)) : Opens P t (Kd.int k) (fun _ => 1) (fun n => (Lit.int k n).wf = true) := ⟨fun h => by
  obtain ⟨n, rfl, rfl, hw⟩ := DataW.trod_int ht h
  exact ⟨n, rfl, by simp [Rows.uptoBulk], hw⟩⟩
theorem Opens.bool (ht : P.underlying t = some .bool) : Opens P t Kd.bool (fun _ => 1) (fun _ => True) := ⟨fun h => by
  obtain ⟨n, rfl, rfl⟩ := DataW.trod_bool ht h
  exact ⟨n, rfl, by simp [Rows.uptoBulk], trivial⟩⟩
theorem Opens.string (ht : P.underlying t = some .string) : Opens P t Kd.string (fun s => s.size + 1) (fun _ => True) := ⟨fun h => by
  obtain ⟨n, rfl, rfl, hs⟩ := DataW.trod_string ht h
  refine ⟨n, rfl, ?_, trivial⟩
  simp only [Rows.uptoBulk]
  rw [data_length]
  omega⟩

theorem bulkAll_ge {H : Type} {α : Type} {wt : α → Nat} : ∀ (n : Nat) (D : Nat → DataW H) (V : Nat → α), (∀ i, i < n → wt (V i) ≤ Rows.uptoBulk (D i)) →
    (((List.range n).map V).map wt).sum ≤ Rows.uptoBulkAll ((List.range n).map D)
  | 0, _, _, _ => by simp [Rows.uptoBulkAll]
  | n + 1, D, V, h => by
    have ih := bulkAll_ge n D V (fun i hi => h i (by omega))
    have h0 := h n (by omega)
    rw [List.range_succ]
    simp only [List.map_append, List.map_cons, List.map_nil, List.sum_append, List.sum_cons, List.sum_nil]
    have app : ∀ (l r : List (DataW H)), Rows.uptoBulkAll (l ++ r) = Rows.uptoBulkAll l + Rows.uptoBulkAll r := by
      intro l r
      induction l with
      | nil => simp [Rows.uptoBulkAll]
      | cons x l ih => simp only [List.cons_append, Rows.uptoBulkAll, ih]; omega
    rw [app]
    simp only [Rows.uptoBulkAll]
    omega

theorem Opens.slice {α : Type} [Inhabited α] {d : Kd α} {wt : α → Nat} {ok : α → Prop} (ht : P.underlying t = some (.slice e)) (hE : P.cellsOf e = d.sz) (he : Opens P e d wt ok) :
    Opens P t (Kd.slice e d) (fun l => (l.map wt).sum + 1) (fun l => ∀ x ∈ l, ok x) := ⟨fun {H enc w base spare held fuel cs x} h => by
  rcases open_slice ht h with ⟨rfl, rfl⟩ | ⟨a, len, cap, m, n, D, Pl, rfl, hb, hl, hm, hmm, rfl, hi⟩
  · exact ⟨[], ⟨none, 0, rfl, Nat.le_refl _, rfl, (by simp), fun h => absurd h (Nat.lt_irrefl 0)⟩, by simp [Rows.uptoBulk], fun x hx => by cases hx⟩
  · have hlm : len ≤ m := by rw [hmm]; split <;> omega
    have hv : ∀ i, i < m → ∃ v : α, (∃ cs', cs'.length = d.sz ∧ d.K w v cs' ∧ ∀ j u, cs'[j]? = some u → w.cell? (a.add (i * d.sz + j)) = some u) ∧ wt v ≤ Rows.uptoBulk (D i) ∧ ok v := by
      intro i him
      obtain ⟨cs', hc, ht'⟩ := hi i him
      obtain ⟨v, hK, hw, ho⟩ := he.go ht'
      obtain ⟨_, hcl, hat⟩ := World.cells?_some hc
      refine ⟨v, ⟨cs', d.K_len hK, hK, fun j u hu => ?_⟩, hw, ho⟩
      have hj : j < cs'.length := by
        rcases Nat.lt_or_ge j cs'.length with h1 | h1
        · exact h1
        · rw [List.getElem?_eq_none h1] at hu; cases hu
      have h1 := hat j (by rw [hE, ← d.K_len hK]; exact hj)
      rw [Deep.add_add, hE] at h1
      rw [h1, hu]
    obtain ⟨V, hV⟩ := choose_lt hv
    refine ⟨(List.range len).map V, ⟨some a, cap, by simp, by simpa using hl, by simp, by simp only [List.length_map, List.length_range]; unfold maxLen at hm; omega, fun hp => ⟨a, rfl, fun j p hj => ?_⟩⟩, ?_, ?_⟩
    · have hjl : j < len := by
        rcases Nat.lt_or_ge j len with h1 | h1
        · exact h1
        · rw [List.getElem?_eq_none (by simpa using h1)] at hj; cases hj
      have hp : p = V j := by
        rw [List.getElem?_map, List.getElem?_range hjl] at hj
        injection hj with hj
        exact hj.symm
      subst hp
      obtain ⟨⟨cs', h1, h2, h3⟩, _, _⟩ := hV j (by omega)
      exact ⟨cs', h1, h2, h3⟩
    · have h1 := bulkAll_ge (wt := wt) len D V (fun i hi' => (hV i (by omega)).2.1)
      simp only [Rows.uptoBulk]
      omega
    · intro x hx
      obtain ⟨i, hi', rfl⟩ := List.mem_map.1 hx
      exact (hV i (by have := List.mem_range.1 hi'; omega)).2.2⟩

/-- a run of fields, from the cell o0 on -/
structure OpensF {α : Type} (P : Program) (l : List Field) (o0 : Nat) (d : Kd α) (wt : α → Nat) (ok : α → Prop) : Prop where
  go : ∀ {H : Type} {enc : TypeId × Value → H} {w : World} {base : Nat} {spare : Nat → Bool} {held : Bool} {n : Nat} {cs : List Value} {xs : List (DataW H × List MemPlace)},
    cs.length = d.sz → xs.length = l.length → (∀ (i : Nat) (f : Field), l[i]? = some f → DataW.trod enc P w base spare held n f.type ((cs.drop (f.offset - o0)).take (P.cellsOf f.type)) = xs[i]?) →
      ∃ v : α, d.K w v cs ∧ wt v ≤ Rows.uptoBulkAll (xs.map (·.1)) ∧ ok v

theorem OpensF.one {α : Type} {d : Kd α} {wt : α → Nat} {ok : α → Prop} {f : Field} {o0 : Nat} (hf : f.offset = o0) (hE : P.cellsOf f.type = d.sz) (he : Opens P f.type d wt ok) : OpensF P [f] o0 d wt ok := ⟨fun {H enc w base spare held n cs xs} hl hx h => by
  match xs, hx with
  | [x], _ =>
    have h0 := h 0 f rfl
    rw [hf, Nat.sub_self, List.drop_zero, hE, List.take_of_length_le (by omega)] at h0
    obtain ⟨v, hK, hw, ho⟩ := he.go h0
    exact ⟨v, hK, by simpa [Rows.uptoBulkAll] using hw, ho⟩⟩

theorem OpensF.cons {α β : Type} {d : Kd α} {d' : Kd β} {wt : α → Nat} {ok : α → Prop} {wt' : β → Nat} {ok' : β → Prop} {f : Field} {l : List Field} {o0 o1 : Nat} (hf : f.offset = o0) (hE : P.cellsOf f.type = d.sz) (he : Opens P f.type d wt ok)
    (ho1 : o1 = o0 + d.sz) (hge : ∀ g ∈ l, o1 ≤ g.offset) (hr : OpensF P l o1 d' wt' ok') : OpensF P (f :: l) o0 (Kd.pair d d') (fun x => wt x.1 + wt' x.2) (fun x => ok x.1 ∧ ok' x.2) := ⟨fun {H enc w base spare held n cs xs} hl hx h => by
  match xs, hx with
  | x :: xs, hx =>
    have hl' : cs.length = d.sz + d'.sz := hl
    have h0 := h 0 f rfl
    rw [hf, Nat.sub_self, List.drop_zero, hE] at h0
    obtain ⟨v, hK, hw, ho⟩ := he.go h0
    obtain ⟨v', hK', hw', ho'⟩ := hr.go (cs := cs.drop d.sz) (xs := xs) (enc := enc) (w := w) (base := base) (spare := spare) (held := held) (n := n) (by simp [hl']) (by simpa using hx) (fun i g hg => by
      have h1 := h (i + 1) g (by simpa using hg)
      have hm : g ∈ l := List.mem_of_getElem? hg
      have h2 := hge g hm
      rw [List.drop_drop]
      rw [show d.sz + (g.offset - o1) = g.offset - o0 by omega]
      simpa using h1)
    refine ⟨(v, v'), ⟨cs.take d.sz, cs.drop d.sz, by simp, hK, hK'⟩, ?_, ho, ho'⟩
    simp only [List.map_cons, Rows.uptoBulkAll]
    omega⟩

theorem Opens.struct {α β : Type} {d : Kd α} {wt : α → Nat} {ok : α → Prop} {fs : Array Field} (f : β → α) (g : α → β) (hfg : ∀ a, f (g a) = a) (ht : P.underlying t = some (.struct fs)) (hE : P.cellsOf t = d.sz) (hF : OpensF P fs.toList 0 d wt ok) :
    Opens P t (Kd.iso d f) (fun x => wt (f x) + 1) (fun x => ok (f x)) := ⟨fun {H enc w base spare held fuel cs x} h => by
  obtain ⟨xs, n, rfl, rfl, hl, hxl, hi⟩ := DataW.trod_struct ht h
  obtain ⟨v, hK, hw, ho⟩ := hF.go (cs := cs) (xs := xs) (enc := enc) (w := w) (base := base) (spare := spare) (held := held) (n := n) (by rw [hl, hE]) (by simpa using hxl) (fun i q hq => by
    have := hi i q (by simpa using hq)
    simpa using this)
  refine ⟨g v, ?_, ?_, ?_⟩
  · show d.K w (f (g v)) cs
    rw [hfg]; exact hK
  · simp only [hfg, Rows.uptoBulk]; omega
  · simp only [hfg]; exact ho⟩

theorem Opens.weaken {α : Type} {d : Kd α} {wt wt' : α → Nat} {ok ok' : α → Prop} (h : Opens P t d wt ok) (h1 : ∀ v, wt' v ≤ wt v) (h2 : ∀ v, ok v → ok' v) : Opens P t d wt' ok' := ⟨fun ht => by
  obtain ⟨v, hK, hw, ho⟩ := h.go ht
  exact ⟨v, hK, Nat.le_trans (h1 v) hw, h2 v ho⟩⟩
theorem sum_ones {α : Type} : ∀ l : List α, (l.map fun _ => 1).sum = l.length
  | [] => rfl
  | x :: l => by simp [sum_ones l]; omega
/-- a slice whose length alone counts -/
theorem Opens.sliceLen {α : Type} [Inhabited α] {d : Kd α} {ok : α → Prop} (ht : P.underlying t = some (.slice e)) (hE : P.cellsOf e = d.sz) (he : Opens P e d (fun _ => 1) ok) :
    Opens P t (Kd.slice e d) (fun l => l.length + 1) (fun l => ∀ x ∈ l, ok x) :=
  (Opens.slice ht hE he).weaken (fun l => by rw [sum_ones]; exact Nat.le_refl _) (fun _ h => h)

/-- an argument that is a slice, opened -/
theorem Opens.arg {α : Type} {d : Kd α} {wt : List α → Nat} {ok : List α → Prop} (ho : Opens P t (Kd.slice e d) wt ok) {H : Type} {enc : TypeId × Value → H} {w : World} {base : Nat} {spare : Nat → Bool} {held : Bool} {a : Option Addr} {len cap : Nat} {x : DataW H} {ps : List MemPlace}
    (h : DataW.Trod enc P w base spare held t (.slice a len cap) x ps) : ∃ l : List α, l.length = len ∧ len ≤ cap ∧ d.C w a len l ∧ wt l ≤ Rows.uptoBulk x ∧ ok l := by
  obtain ⟨fuel, hf⟩ := h
  obtain ⟨l, ⟨A, c, hcs, hc, hC⟩, hw, hok⟩ := ho.go hf
  have h1 : [Value.slice a len cap] = [.slice A l.length c] := by simpa [Value.cells] using hcs
  injection h1 with h1 _
  injection h1 with h1 h2 h3
  subst h1 h2 h3
  exact ⟨l, rfl, hc, hC, hw, hok⟩

theorem part_le {H : Type} {d : DataW H} {l : List (DataW H)} (h : d ∈ l) : Rows.uptoBulk d ≤ Rows.uptoBulkAll l := by
  induction l with
  | nil => cases h
  | cons x r ih =>
    simp only [Rows.uptoBulkAll]
    cases List.mem_cons.1 h with
    | inl e => subst e; omega
    | inr e => have := ih e; omega
theorem bound {H : Type} {l : List (DataW H)} (hk : Rows.uptoSmall H l = true) : Rows.uptoBulkAll l ≤ 1048576 := of_decide_eq_true hk
theorem len_le {α : Type} {wt : α → Nat} (h1 : ∀ x, 1 ≤ wt x) : ∀ l : List α, l.length ≤ (l.map wt).sum
  | [] => Nat.zero_le _
  | x :: l => by have := len_le h1 l; have := h1 x; simp; omega
theorem wt_le {α : Type} {wt : α → Nat} {x : α} : ∀ {l : List α}, x ∈ l → wt x ≤ (l.map wt).sum
  | y :: l, h => by
    cases List.mem_cons.1 h with
    | inl e => subst e; simp
    | inr e => have := wt_le (wt := wt) e; simp; omega
theorem wf64 {n : Int} (h : (Lit.int .i64 n).wf = true) : -9223372036854775808 ≤ n ∧ n ≤ 9223372036854775807 := by
  simpa [Lit.wf, IntKind.min, IntKind.max, IntKind.signed, IntKind.bits] using h
end Go.Proofs.YtlnfadlgjcnngaaGreat.Op
