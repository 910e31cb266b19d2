/- audit.Totals: what it tells, and what its loop keeps. -/
import Derived.Test.YtelfachmfcjpoaaEPa
import Derived.Test.YtelfachmfcjpoaaMp
namespace Go.Proofs.Ytelfachmfcjpoaa.PA
open Go.RowKit Go.Maps Go.Proofs.YtelfachmfcjpoaaW.PrintWords Go.Proofs.YtelfachmfcjpoaaW.PrintLast Go.Proofs.YtelfachmfcjpoaaW.PrintMore
set_option linter.unusedVariables false
set_option linter.unusedSimpArgs false

abbrev ST := S41
abbrev SA' := S44
def insK (p : Int) : List Int → List Int
  | [] => [p]
  | x :: xs => if p < x then p :: x :: xs else if p = x then x :: xs else x :: insK p xs
theorem insK_mem (p y : Int) : ∀ l, y ∈ insK p l ↔ y = p ∨ y ∈ l
  | [] => by simp [insK]
  | x :: xs => by
    unfold insK
    split
    · simp
    · split
      · rename_i h; subst h; simp
      · simp only [List.mem_cons, insK_mem p y xs]
        constructor
        · rintro (h | h | h)
          · exact .inr (.inl h)
          · exact .inl h
          · exact .inr (.inr h)
        · rintro (h | h | h)
          · exact .inr (.inl h)
          · exact .inl h
          · exact .inr (.inr h)
theorem insK_rising (p : Int) : ∀ l, l.Pairwise (· < ·) → (insK p l).Pairwise (· < ·)
  | [], _ => by simp [insK]
  | x :: xs, h => by
    unfold insK
    rw [List.pairwise_cons] at h
    split
    · rename_i hlt
      rw [List.pairwise_cons, List.pairwise_cons]
      refine ⟨fun y hy => ?_, h⟩
      rcases List.mem_cons.1 hy with e | e
      · omega
      · have := h.1 y e; omega
    · split
      · rw [List.pairwise_cons]; exact h
      · rw [List.pairwise_cons]
        refine ⟨fun y hy => ?_, insK_rising p xs h.2⟩
        rcases (insK_mem p y xs).1 hy with e | e
        · omega
        · exact h.1 y e
def keysOf (l : List SA') : List Int := l.foldr (fun r acc => insK r.f3 acc) []
theorem keysOf_mem (y : Int) : ∀ l : List SA', y ∈ keysOf l ↔ ∃ r ∈ l, r.f3 = y
  | [] => by simp [keysOf]
  | r :: l => by
    show y ∈ insK r.f3 (keysOf l) ↔ _
    rw [insK_mem, keysOf_mem y l]
    simp only [List.mem_cons]
    constructor
    · rintro (h | ⟨q, hq, e⟩)
      · exact ⟨r, .inl rfl, h.symm⟩
      · exact ⟨q, .inr hq, e⟩
    · rintro ⟨q, h | h, e⟩
      · subst h; exact .inl e.symm
      · exact .inr ⟨q, h, e⟩
theorem keysOf_rising : ∀ l : List SA', (keysOf l).Pairwise (· < ·)
  | [] => List.Pairwise.nil
  | r :: l => insK_rising _ _ (keysOf_rising l)
theorem insK_length (p : Int) : ∀ l, (insK p l).length ≤ l.length + 1
  | [] => by simp [insK]
  | x :: xs => by
    unfold insK
    split
    · simp
    · split
      · simp
      · have := insK_length p xs; simp; omega
theorem keysOf_length : ∀ l : List SA', (keysOf l).length ≤ l.length
  | [] => Nat.le_refl _
  | r :: l => by
    have h1 := insK_length r.f3 (keysOf l)
    have h2 := keysOf_length l
    show (insK r.f3 (keysOf l)).length ≤ _
    simp; omega

def cnt (p : Int) (l : List SA') : Nat := (l.filter fun r => r.f3 == p).length
def agn (p : Int) (l : List SA') : Nat := (l.filter fun r => r.f3 == p && r.f5).length
def fld (p : Int) (l : List SA') : Nat := (l.filter fun r => r.f3 == p && (r.f4 != 0)).length
def tot (p : Int) (l : List SA') : ST := ⟨p, cnt p l, agn p l, fld p l⟩
def totCells (t : ST) : Array Value := #[.int .i64 t.f0, .int .i64 t.f1, .int .i64 t.f2, .int .i64 t.f3]
theorem cnt_le (p : Int) (l : List SA') : cnt p l ≤ l.length := List.length_filter_le _ _
theorem agn_le (p : Int) (l : List SA') : agn p l ≤ l.length := List.length_filter_le _ _
theorem fld_le (p : Int) (l : List SA') : fld p l ≤ l.length := List.length_filter_le _ _
theorem tot_other {p : Int} {l : List SA'} {r : SA'} (h : ¬ r.f3 = p) : tot p (l ++ [r]) = tot p l := by
  have e : (r.f3 == p) = false := beq_eq_false_iff_ne.2 h
  unfold tot cnt agn fld
  simp [List.filter_append, List.filter_cons, e]
theorem tot_same {l : List SA'} {r : SA'} : tot r.f3 (l ++ [r]) = ⟨r.f3, cnt r.f3 l + 1, agn r.f3 l + (if r.f5 = true then 1 else 0), fld r.f3 l + (if r.f4 = 0 then 0 else 1)⟩ := by
  unfold tot cnt agn fld
  simp only [List.filter_append, List.filter_cons, List.filter_nil, beq_self_eq_true, Bool.true_and, if_true, List.length_append]
  by_cases h5 : r.f5 = true <;> by_cases h4 : r.f4 = 0 <;> simp [h5, h4]
theorem tot_none {p : Int} {l : List SA'} (h : ¬ ∃ r ∈ l, r.f3 = p) : tot p l = ⟨p, 0, 0, 0⟩ := by
  have e : ∀ r ∈ l, (r.f3 == p) = false := fun r hr => beq_eq_false_iff_ne.2 fun e => h ⟨r, hr, e⟩
  unfold tot cnt agn fld
  have h1 : l.filter (fun r => r.f3 == p) = [] := List.filter_eq_nil_iff.2 fun r hr => by simp [e r hr]
  have h2 : l.filter (fun r => r.f3 == p && r.f5) = [] := List.filter_eq_nil_iff.2 fun r hr => by simp [e r hr]
  have h3 : l.filter (fun r => r.f3 == p && (r.f4 != 0)) = [] := List.filter_eq_nil_iff.2 fun r hr => by simp [e r hr]
  rw [h1, h2, h3]; rfl

def totalsOf (l : List SA') : List ST := (keysOf l).map fun p => tot p l

/-- WHAT THE LOOP KEEPS: the map leads from each procedure met so far to a block of its own that holds what came of it. -/
structure TI (w0 W : World) (b k : Nat) (P : List SA') (D : DataW Unit) (G : Int → Option Nat) : Prop where
  own : W.ownsMap Try.prog 3 Mp.ptrR b k D
  low : w0.heap.size ≤ b
  at_ : ∀ p, D.atKey (.int .i64 p) .nil = Mp.ptrD (G p)
  has_ : ∀ p, Maps.has D (.int .i64 p) = (G p).isSome
  blk : ∀ p g, G p = some g → W.heap[g]? = some (.cells (totCells (tot p P)) 41 (0, 0)) ∧ w0.heap.size ≤ g
  inj : ∀ p q g, G p = some g → G q = some g → p = q
  dom : ∀ p, (G p).isSome = true ↔ ∃ r ∈ P, r.f3 = p

/-- old blocks but g and b stand -/
structure KB (w0 W : World) (g b : Nat) : Prop where
  size : w0.heap.size ≤ W.heap.size
  same : ∀ j, j < w0.heap.size → j ≠ g → j ≠ b → W.heap[j]? = w0.heap[j]?
theorem KB.refl (w : World) (g b : Nat) : KB w w g b := ⟨Nat.le_refl _, fun _ _ _ _ => rfl⟩
theorem KB.below {w0 W W1 : World} {g b : Nat} (h : KB w0 W g b) (hb : Below W.heap.size W W1) : KB w0 W1 g b :=
  ⟨Nat.le_trans h.size hb.size, fun j hj h1 h2 => (hb.block j (Nat.lt_of_lt_of_le hj h.size)).trans (h.same j hj h1 h2)⟩
theorem KB.grown {w0 W W1 : World} {g b x : Nat} (h : KB w0 W g b) (hg : W.grownBy W1 (some x)) (hx : x = g ∨ x = b ∨ w0.heap.size ≤ x) : KB w0 W1 g b :=
  ⟨Nat.le_trans h.size hg.size, fun j hj h1 h2 => (hg.block j (Nat.lt_of_lt_of_le hj h.size) (fun e => by injection e with e; omega)).trans (h.same j hj h1 h2)⟩

theorem own_ne {w : World} {b n : Nat} {D : DataW Unit} {g : Nat} {cs : Array Value} {t : TypeId} (h : w.ownsMap Try.prog 3 Mp.ptrR b n D) (hg : w.heap[g]? = some (.cells cs t (0, 0))) : b ≠ g := by
  obtain ⟨es, clock, hb, _⟩ := h
  rintro rfl
  rw [hb] at hg
  cases hg

/-- the start -/
theorem TI.start (w0 W : World) (b : Nat) (hb : w0.heap.size ≤ b) (h : W.ownsMap Try.prog 3 Mp.ptrR b 0 (.map [])) : TI w0 W b 0 [] (.map []) (fun _ => none) :=
  ⟨h, hb, fun p => rfl, fun p => rfl, (fun p g h => by cases h), (fun p q g h => by cases h), (fun p => by simp)⟩

/-- a row of a procedure that was met -/
theorem TI.step_old {w0 W W1 : World} {b k : Nat} {P : List SA'} {D : DataW Unit} {G : Int → Option Nat} {r : SA'} {g : Nat} (h : TI w0 W b k P D G) (hg : G r.f3 = some g) (hk : KB W W1 g b) (ho : W1.ownsMap Try.prog 3 Mp.ptrR b k D)
    (hb : W1.heap[g]? = some (.cells (totCells (tot r.f3 (P ++ [r]))) 41 (0, 0))) : TI w0 W1 b (k + 1) (P ++ [r]) D G := by
  refine ⟨ho.mono (by omega), h.low, h.at_, h.has_, fun p g' hp => ?_, h.inj, fun p => ?_⟩
  · obtain ⟨h1, h2⟩ := h.blk p g' hp
    by_cases e : p = r.f3
    · subst e
      obtain rfl : g' = g := by rw [hg] at hp; injection hp with hp; exact hp.symm
      exact ⟨hb, h2⟩
    · have hne : g' ≠ g := fun e2 => e (h.inj p r.f3 g' hp (by rw [hg, e2]))
      rw [tot_other (fun e2 => e e2.symm)]
      exact ⟨(hk.same g' (blk_lt h1) hne (fun e2 => own_ne h.own h1 e2.symm)).trans h1, h2⟩
  · rw [h.dom p]
    constructor
    · rintro ⟨q, hq, e⟩; exact ⟨q, by simp [hq], e⟩
    · rintro ⟨q, hq, e⟩
      rcases List.mem_append.1 hq with hq | hq
      · exact ⟨q, hq, e⟩
      · obtain rfl := List.mem_singleton.1 hq
        rw [← h.dom, ← e, hg]; rfl

/-- a row of a new procedure -/
theorem TI.step_new {w0 W W1 : World} {b k : Nat} {P : List SA'} {D : DataW Unit} {G : Int → Option Nat} {r : SA'} {g : Nat} (h : TI w0 W b k P D G) (hn : G r.f3 = none) (hw0 : w0.heap.size ≤ W.heap.size) (hgW : W.heap.size ≤ g) (hk : KB W W1 g b)
    (ho : W1.ownsMap Try.prog 3 Mp.ptrR b (k + 1) (D.put (.int .i64 r.f3) (.lit (.int .i64 g))))
    (hb : W1.heap[g]? = some (.cells (totCells (tot r.f3 (P ++ [r]))) 41 (0, 0))) : TI w0 W1 b (k + 1) (P ++ [r]) (D.put (.int .i64 r.f3) (.lit (.int .i64 g))) (fun p => if p = r.f3 then some g else G p) := by
  have him : Maps.IsMap D := h.own.isMap
  refine ⟨ho, h.low, fun p => ?_, fun p => ?_, fun p g' hp => ?_, fun p q g' hp hq => ?_, fun p => ?_⟩
  · by_cases e : p = r.f3
    · subst e
      rw [Maps.atKey_put_same him (show WideAt.IsKeyLit (.int .i64 r.f3) from trivial), if_pos rfl]; rfl
    · rw [Maps.atKey_put_other (by intro e2; injection e2 with _ e2; exact e e2), if_neg e]; exact h.at_ p
  · by_cases e : p = r.f3
    · subst e
      rw [Maps.has_put_same him (show WideAt.IsKeyLit (.int .i64 r.f3) from trivial), if_pos rfl]; rfl
    · rw [Maps.has_put_other (by intro e2; injection e2 with _ e2; exact e e2), if_neg e]; exact h.has_ p
  · by_cases e : p = r.f3
    · subst e
      simp only [if_true] at hp
      injection hp with hp
      subst hp
      exact ⟨hb, by omega⟩
    · simp only [if_neg e] at hp
      obtain ⟨h1, h2⟩ := h.blk p g' hp
      have hlt := blk_lt h1
      rw [tot_other (fun e2 => e e2.symm)]
      exact ⟨(hk.same g' hlt (by omega) (fun e2 => own_ne h.own h1 e2.symm)).trans h1, h2⟩
  · by_cases e : p = r.f3
    · by_cases e2 : q = r.f3
      · rw [e, e2]
      · simp only [if_pos e] at hp
        simp only [if_neg e2] at hq
        injection hp with hp
        have := blk_lt (h.blk q g' hq).1
        omega
    · by_cases e2 : q = r.f3
      · simp only [if_neg e] at hp
        simp only [if_pos e2] at hq
        injection hq with hq
        have := blk_lt (h.blk p g' hp).1
        omega
      · simp only [if_neg e] at hp
        simp only [if_neg e2] at hq
        exact h.inj p q g' hp hq
  · by_cases e : p = r.f3
    · simp only [if_pos e]
      exact ⟨fun _ => ⟨r, by simp, e.symm⟩, fun _ => rfl⟩
    · simp only [if_neg e]
      rw [h.dom p]
      constructor
      · rintro ⟨q, hq, e3⟩; exact ⟨q, by simp [hq], e3⟩
      · rintro ⟨q, hq, e3⟩
        rcases List.mem_append.1 hq with hq | hq
        · exact ⟨q, hq, e3⟩
        · obtain rfl := List.mem_singleton.1 hq
          exact absurd e3.symm e

theorem TI.below {w0 W W1 : World} {b k : Nat} {P : List SA'} {D : DataW Unit} {G : Int → Option Nat} (h : TI w0 W b k P D G) (hb : Below W.heap.size W W1) : TI w0 W1 b k P D G :=
  ⟨h.own.kept ⟨hb.os, hb.tape, hb.output, hb.size, fun j hj _ => hb.block j hj⟩ (row := none) (by simp), h.low, h.at_, h.has_, fun p g hp => ⟨Lb.blk_below (h.blk p g hp).1 hb, (h.blk p g hp).2⟩, h.inj, h.dom⟩

/-- the keys, sorted, are the procedures -/
theorem TI.keys {w0 W : World} {b k : Nat} {P : List SA'} {D : DataW Unit} {G : Int → Option Nat} (h : TI w0 W b k P D G) {ss : List Int} (hs : ss.Perm (intKeys D)) : ss.mergeSort (fun x y => decide (x ≤ y)) = keysOf P := by
  have hnd : (keysOf P).Nodup := (keysOf_rising P).imp (fun h => by omega)
  have hp : (keysOf P).Perm (intKeys D) := CollectedI.perm (left := fun _ => false) ⟨hnd, fun x => by
    rw [keysOf_mem, ← h.dom x, ← h.has_ x]; simp⟩ h.own Mp.int_law Try.underlying3 (fun _ => rfl)
  have hps : ss.Perm (keysOf P) := hs.trans hp.symm
  refine Mp.rising_ext (Mp.sorted_rising (hps.nodup_iff.2 hnd)) (keysOf_rising P) fun x => ?_
  rw [(List.mergeSort_perm ss _).mem_iff, hps.mem_iff]
theorem TI.size_le {w0 W : World} {b k : Nat} {P : List SA'} {D : DataW Unit} {G : Int → Option Nat} (h : TI w0 W b k P D G) : Maps.size D ≤ k := h.own.size_le
end Go.Proofs.Ytelfachmfcjpoaa.PA
