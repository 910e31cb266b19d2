/- What a log that is filled comes to (plain). -/
import Derived.Test.YtfiocakhgpdlfaaDoorHa
namespace Go.Proofs.YtfiocakhgpdlfaaDoor.Sg
set_option linter.unusedVariables false

/-- the checkpoint that takes a record of n parts, of N segments -/
def cpForN (N : Nat) (c : Cp) (n : Nat) : Option (Cp × Bool) :=
  if (lastSeg c).used + n ≤ 16 then some (c, false) else (freeId N c.segs).map fun i => (⟨c.serial + 1, c.boot, c.seq, c.segs ++ [⟨i, 0⟩]⟩, true)
theorem cpFor_N (S : List ByteArray) (c : Cp) (n : Nat) : cpFor S c n = cpForN (segsN S) c n := rfl
abbrev Sim := Cp × List (Nat × Nat)
def simStep (N p : Nat) (x : Sim) : Option Sim := (cpForN N x.1 p).map fun y => (setLast y.1 ((lastSeg y.1).used + p) (y.1.seq + 1), x.2 ++ [(y.1.seq, (lastSeg y.1).id)])
def sim (N p : Nat) (x : Sim) : Nat → Sim
  | 0 => x
  | j + 1 => (simStep N p (sim N p x j)).getD ((sim N p x j))
def x0 : Sim := (booted cp0, [])
/-- the first segment is dropped -/
def simDrop (x : Sim) : Sim := (⟨x.1.serial + 1, x.1.boot, x.1.seq, x.1.segs.eraseIdx 0⟩, x.2.filter fun r => r.2 != 0)
def fineC (c : Cp) (j : Nat) : Bool := c.serial ≤ 1000 && c.boot == 1 && c.seq == j && 1 ≤ c.segs.length && c.segs.length ≤ 4
def okFill (p : Nat) : Bool :=
  let e := 16 / p
  (List.range (4 * e)).all (fun j => (simStep 4 p (sim 4 p x0 j)).isSome && fineC (sim 4 p x0 j).1 j) &&
  (let x := sim 4 p x0 (4 * e)
   (cpForN 4 x.1 p).isNone && fineC x.1 (4 * e) && x.1.segs.length == 4 && ((x.1.segs.head?.map (·.id)) == some 0) && ((x.1.segs.findIdx? fun s => (s.id : Int) == 0) == some 0) &&
   (let y := simDrop x
    y.1.segs.length == 3 &&
    (List.range e).all (fun j => (simStep 4 p (sim 4 p y j)).isSome && fineC (sim 4 p y j).1 (4 * e + j)) &&
    (let z := sim 4 p y e
     (cpForN 4 z.1 p).isNone && fineC z.1 (5 * e) && z.2.length == 4 * e && (z.2.head?.map (·.1)) == some e && (z.2.getLast?.map (·.1)) == some (5 * e - 1))))
theorem ok_fill : ((List.range 16).all fun p => okFill (p + 1)) = true := by decide +kernel
theorem ok_at (p : Nat) (h1 : 1 ≤ p) (h2 : p ≤ 16) : okFill p = true := by
  have h := List.all_eq_true.1 ok_fill (p - 1) (List.mem_range.2 (by omega))
  rwa [show p - 1 + 1 = p by omega] at h
def recs (body : List UInt8) (l : List (Nat × Nat)) : List Rec := l.map fun r => ⟨r.1, r.2, body⟩
theorem recs_snoc (body : List UInt8) (l : List (Nat × Nat)) (q s : Nat) : recs body (l ++ [(q, s)]) = recs body l ++ [⟨q, s, body⟩] := by simp [recs]
theorem recs_without (body : List UInt8) (l : List (Nat × Nat)) : without (recs body l) 0 = recs body (l.filter fun r => r.2 != 0) := by
  unfold without recs
  rw [List.filter_map]
  rfl
/-- what of a filled log is known -/
structure Fill (p e : Nat) : Prop where
  step : ∀ j, j < 4 * e → ∃ c o, cpForN 4 (sim 4 p x0 j).1 p = some (c, o) ∧ sim 4 p x0 (j + 1) = (setLast c ((lastSeg c).used + p) (c.seq + 1), (sim 4 p x0 j).2 ++ [(c.seq, (lastSeg c).id)])
  fine : ∀ j, j ≤ 4 * e → fineC (sim 4 p x0 j).1 j = true
  full : cpForN 4 (sim 4 p x0 (4 * e)).1 p = none
  len : (sim 4 p x0 (4 * e)).1.segs.length = 4
  first : (sim 4 p x0 (4 * e)).1.segs.head?.map (·.id) = some 0
  at0 : ((sim 4 p x0 (4 * e)).1.segs.findIdx? fun s => (s.id : Int) == 0) = some 0
  len3 : (simDrop (sim 4 p x0 (4 * e))).1.segs.length = 3
  step2 : ∀ j, j < e → ∃ c o, cpForN 4 (sim 4 p (simDrop (sim 4 p x0 (4 * e))) j).1 p = some (c, o) ∧ sim 4 p (simDrop (sim 4 p x0 (4 * e))) (j + 1) = (setLast c ((lastSeg c).used + p) (c.seq + 1), (sim 4 p (simDrop (sim 4 p x0 (4 * e))) j).2 ++ [(c.seq, (lastSeg c).id)])
  fine2 : ∀ j, j ≤ e → fineC (sim 4 p (simDrop (sim 4 p x0 (4 * e))) j).1 (4 * e + j) = true
  full2 : cpForN 4 (sim 4 p (simDrop (sim 4 p x0 (4 * e))) e).1 p = none
  num : (sim 4 p (simDrop (sim 4 p x0 (4 * e))) e).2.length = 4 * e
  fst : (sim 4 p (simDrop (sim 4 p x0 (4 * e))) e).2.head?.map (·.1) = some e
  lst : (sim 4 p (simDrop (sim 4 p x0 (4 * e))) e).2.getLast?.map (·.1) = some (5 * e - 1)
theorem step_of {N p : Nat} {x : Sim} {j : Nat} (h : (simStep N p (sim N p x j)).isSome = true) : ∃ c o, cpForN N (sim N p x j).1 p = some (c, o) ∧ sim N p x (j + 1) = (setLast c ((lastSeg c).used + p) (c.seq + 1), (sim N p x j).2 ++ [(c.seq, (lastSeg c).id)]) := by
  rw [sim]
  unfold simStep at h ⊢
  cases hc : cpForN N (sim N p x j).1 p with
  | none => rw [hc] at h; cases h
  | some y => obtain ⟨c, o⟩ := y; exact ⟨c, o, rfl, rfl⟩
theorem fill_of (p : Nat) (h1 : 1 ≤ p) (h2 : p ≤ 16) : Fill p (16 / p) := by
  have h := ok_at p h1 h2
  unfold okFill at h
  simp only [Bool.and_eq_true, List.all_eq_true, List.mem_range, Option.isNone_iff_eq_none, beq_iff_eq] at h
  obtain ⟨ha, ⟨⟨⟨⟨hb, hc⟩, hd⟩, he⟩, hf⟩, ⟨hg, hh⟩, ⟨⟨⟨hi, hj⟩, hk⟩, hl⟩, hm⟩ := h
  refine ⟨fun j hj => step_of (ha j hj).1, fun j hj => ?_, hb, hd, he, hf, hg, fun j hj => step_of (hh j hj).1, fun j hj' => ?_, hi, hk, hl, hm⟩
  · by_cases h : j = 4 * (16 / p)
    · rw [h]; exact hc
    · exact (ha j (by omega)).2
  · by_cases h : j = 16 / p
    · rw [h, show 4 * (16 / p) + 16 / p = 5 * (16 / p) by omega]; exact hj
    · exact (hh j (by omega)).2
end Go.Proofs.YtfiocakhgpdlfaaDoor.Sg
