/- What a log that is filled comes to (plain). SeglogFills: the walk. -/
import Derived.Test.YtfiocakhgpdlfaaDoorHa
import Derived.Test.YtfiocakhgpdlfaaDoorHh
namespace Go.Proofs.YtfiocakhgpdlfaaDoor.Sg
set_option linter.unusedVariables false

/-- the checkpoint that takes a record of n parts, of N segments -/
def cpForN (N : Nat) (c : Cp) (n : Nat) : Option (Cp × Bool) :=
  if (lastSeg c).used + n ≤ 16 then some (c, false) else (freeId N c.segs).map fun i => (⟨c.serial + 1, c.boot, c.seq, c.segs ++ [⟨i, 0⟩]⟩, true)
theorem cpFor_N (S : List ByteArray) (c : Cp) (n : Nat) : cpFor S c n = cpForN (segsN S) c n := rfl
abbrev Sim := Cp × List (Nat × Nat)
def simStep (N p : Nat) (x : Sim) : Option Sim := (cpForN N x.1 p).map fun y => (setLast y.1 ((lastSeg y.1).used + p) (y.1.seq + 1), x.2 ++ [(y.1.seq, (lastSeg y.1).id)])
def sim (N p : Nat) (x : Sim) : Nat → Sim
  | 0 => x
  | j + 1 => (simStep N p (sim N p x j)).getD ((sim N p x j))
def x0 : Sim := (booted cp0, [])
/-- the first segment is dropped -/
def simDrop (x : Sim) : Sim := (⟨x.1.serial + 1, x.1.boot, x.1.seq, x.1.segs.eraseIdx 0⟩, x.2.filter fun r => r.2 != 0)
def fineC (c : Cp) (j : Nat) : Bool := c.serial ≤ 1000 && c.boot == 1 && c.seq == j && 1 ≤ c.segs.length && c.segs.length ≤ 4
def okFill (p : Nat) : Bool :=
  let e := 16 / p
  (List.range (4 * e)).all (fun j => (simStep 4 p (sim 4 p x0 j)).isSome && fineC (sim 4 p x0 j).1 j) &&
  (let x := sim 4 p x0 (4 * e)
   (cpForN 4 x.1 p).isNone && fineC x.1 (4 * e) && x.1.segs.length == 4 && ((x.1.segs.head?.map (·.id)) == some 0) && ((x.1.segs.findIdx? fun s => (s.id : Int) == 0) == some 0) &&
   (let y := simDrop x
    y.1.segs.length == 3 &&
    (List.range e).all (fun j => (simStep 4 p (sim 4 p y j)).isSome && fineC (sim 4 p y j).1 (4 * e + j)) &&
    (let z := sim 4 p y e
     (cpForN 4 z.1 p).isNone && fineC z.1 (5 * e) && z.2.length == 4 * e && (z.2.head?.map (·.1)) == some e && (z.2.getLast?.map (·.1)) == some (5 * e - 1))))
theorem ok_fill : ((List.range 16).all fun p => okFill (p + 1)) = true := by decide +kernel
theorem ok_at (p : Nat) (h1 : 1 ≤ p) (h2 : p ≤ 16) : okFill p = true := by
  have h := List.all_eq_true.1 ok_fill (p - 1) (List.mem_range.2 (by omega))
  rwa [show p - 1 + 1 = p by omega] at h
def recs (body : List UInt8) (l : List (Nat × Nat)) : List Rec := l.map fun r => ⟨r.1, r.2, body⟩
theorem recs_snoc (body : List UInt8) (l : List (Nat × Nat)) (q s : Nat) : recs body (l ++ [(q, s)]) = recs body l ++ [⟨q, s, body⟩] := by simp [recs]
theorem recs_without (body : List UInt8) (l : List (Nat × Nat)) : without (recs body l) 0 = recs body (l.filter fun r => r.2 != 0) := by
  unfold without recs
  rw [List.filter_map]
  rfl
/-- what of a filled log is known -/
structure Fill (p e : Nat) : Prop where
  step : ∀ j, j < 4 * e → ∃ c o, cpForN 4 (sim 4 p x0 j).1 p = some (c, o) ∧ sim 4 p x0 (j + 1) = (setLast c ((lastSeg c).used + p) (c.seq + 1), (sim 4 p x0 j).2 ++ [(c.seq, (lastSeg c).id)])
  fine : ∀ j, j ≤ 4 * e → fineC (sim 4 p x0 j).1 j = true
  full : cpForN 4 (sim 4 p x0 (4 * e)).1 p = none
  len : (sim 4 p x0 (4 * e)).1.segs.length = 4
  first : (sim 4 p x0 (4 * e)).1.segs.head?.map (·.id) = some 0
  at0 : ((sim 4 p x0 (4 * e)).1.segs.findIdx? fun s => (s.id : Int) == 0) = some 0
  len3 : (simDrop (sim 4 p x0 (4 * e))).1.segs.length = 3
  step2 : ∀ j, j < e → ∃ c o, cpForN 4 (sim 4 p (simDrop (sim 4 p x0 (4 * e))) j).1 p = some (c, o) ∧ sim 4 p (simDrop (sim 4 p x0 (4 * e))) (j + 1) = (setLast c ((lastSeg c).used + p) (c.seq + 1), (sim 4 p (simDrop (sim 4 p x0 (4 * e))) j).2 ++ [(c.seq, (lastSeg c).id)])
  fine2 : ∀ j, j ≤ e → fineC (sim 4 p (simDrop (sim 4 p x0 (4 * e))) j).1 (4 * e + j) = true
  full2 : cpForN 4 (sim 4 p (simDrop (sim 4 p x0 (4 * e))) e).1 p = none
  num : (sim 4 p (simDrop (sim 4 p x0 (4 * e))) e).2.length = 4 * e
  fst : (sim 4 p (simDrop (sim 4 p x0 (4 * e))) e).2.head?.map (·.1) = some e
  lst : (sim 4 p (simDrop (sim 4 p x0 (4 * e))) e).2.getLast?.map (·.1) = some (5 * e - 1)
theorem step_of {N p : Nat} {x : Sim} {j : Nat} (h : (simStep N p (sim N p x j)).isSome = true) : ∃ c o, cpForN N (sim N p x j).1 p = some (c, o) ∧ sim N p x (j + 1) = (setLast c ((lastSeg c).used + p) (c.seq + 1), (sim N p x j).2 ++ [(c.seq, (lastSeg c).id)]) := by
  rw [sim]
  unfold simStep at h ⊢
  cases hc : cpForN N (sim N p x j).1 p with
  | none => rw [hc] at h; cases h
  | some y => obtain ⟨c, o⟩ := y; exact ⟨c, o, rfl, rfl⟩
theorem fill_of (p : Nat) (h1 : 1 ≤ p) (h2 : p ≤ 16) : Fill p (16 / p) := by
  have h := ok_at p h1 h2
  unfold okFill at h
  simp only [Bool.and_eq_true, List.all_eq_true, List.mem_range, Option.isNone_iff_eq_none, beq_iff_eq] at h
  obtain ⟨ha, ⟨⟨⟨⟨hb, hc⟩, hd⟩, he⟩, hf⟩, ⟨hg, hh⟩, ⟨⟨⟨hi, hj⟩, hk⟩, hl⟩, hm⟩ := h
  refine ⟨fun j hj => step_of (ha j hj).1, fun j hj => ?_, hb, hd, he, hf, hg, fun j hj => step_of (hh j hj).1, fun j hj' => ?_, hi, hk, hl, hm⟩
  · by_cases h : j = 4 * (16 / p)
    · rw [h]; exact hc
    · exact (ha j (by omega)).2
  · by_cases h : j = 16 / p
    · rw [h, show 4 * (16 / p) + 16 / p = 5 * (16 / p) by omega]; exact hj
    · exact (hh j (by omega)).2
end Go.Proofs.YtfiocakhgpdlfaaDoor.Sg

namespace Go.Proofs.YtfiocakhgpdlfaaDoor.Sg
open Go.RowKit Go.Lib Go.Proofs.YtfiocakhgpdlfaaDoor.Ap Go.Proofs.YtfiocakhgpdlfaaDoorW.PrintWords Go.Proofs.YtfiocakhgpdlfaaDoorW.PrintLast Go.Proofs.YtfiocakhgpdlfaaDoorW.PrintMore
set_option linter.unusedVariables false
set_option linter.unusedSimpArgs false

def zeros (n : Nat) : List UInt8 := List.replicate n 0
theorem fineC_le {c : Cp} {j : Nat} (h : fineC c j = true) : c.serial ≤ 1000 ∧ c.boot = 1 ∧ c.seq = j ∧ 1 ≤ c.segs.length ∧ c.segs.length ≤ 4 := by
  unfold fineC at h
  simp only [Bool.and_eq_true, decide_eq_true_eq, beq_iff_eq] at h
  omega
theorem partsN_233 (p : Nat) (h : 1 ≤ p) : partsN (zeros (233 * p)).length = p := by
  unfold partsN zeros
  rw [List.length_replicate]
  omega
theorem segs66 {l : List ByteArray} (h : l.length = 66) : segsN l = 4 := by unfold segsN; omega
/-- one record more -/
theorem append_sim (B gl gd : Nat) (d : Dk) (l : Lg) (p q : Nat) (hq : q = 233 * p) (x y : Sim) (j : Nat) (w : World) (hl : LAt B w gl gd l) (hd : DAt B w gd d) (h66 : d.now.length = 66) (hi : I d l (recs (zeros q) x.2)) (hleft : d.left = 0) (hcp : l.cp = x.1) (hfine : fineC x.1 j = true) (hj : j ≤ 1000) (hp1 : 1 ≤ p) (hp : p ≤ 16)
    (hst : ∃ c o, cpForN 4 x.1 p = some (c, o) ∧ y = (setLast c ((lastSeg c).used + p) (c.seq + 1), x.2 ++ [(c.seq, (lastSeg c).id)])) :
    Calls Tryd.prog 12 #[.pointer (some ⟨gl, 0, none⟩), .string (toB (zeros q))] w fun e w' => ∃ d' l' a b, e = .returned (.tuple #[.agg #[.int .i64 a, .int .i64 b, .string (toB (zeros q))], .int .i64 0]) ∧ DAt B w' gd d' ∧ LAt B w' gl gd l' ∧ FrL B w w' ∧ I d' l' (recs (zeros q) y.2) ∧ d'.left = 0 ∧ d'.now.length = 66 ∧ l'.cp = y.1 := by
  obtain ⟨c, o, h1, rfl⟩ := hst
  have HPN : partsN (zeros q).length = p := by rw [hq]; exact partsN_233 p hp1
  obtain ⟨f1, f2, f3, f4, f5⟩ := fineC_le hfine
  refine (append_on B gl gd d l _ (zeros q) c o w hl hd hi hleft (by rw [hcp]; exact small_top _ (by omega)) (by rw [hcp, f2]; exact Nat.le_of_lt (small_top 1 (by omega))) (by rw [hcp, f3]; exact small_top _ (by omega)) (by rw [HPN]; exact hp) (by rw [HPN, cpFor_N, segs66 h66, hcp]; exact h1)).mono fun e w' h => ?_
  obtain ⟨d', l', g1, g2, g3, g4, g5, g6, g7, g8⟩ := h
  refine ⟨d', l', _, _, g1, g2, g3, g4, ?_, g6, by rw [g7, h66], by rw [g8, HPN]⟩
  rw [recs_snoc]; exact g5
theorem append_none (B gl gd : Nat) (d : Dk) (l : Lg) (p q : Nat) (hq : q = 233 * p) (x : Sim) (j : Nat) (w : World) (hl : LAt B w gl gd l) (hd : DAt B w gd d) (h66 : d.now.length = 66) (hi : I d l (recs (zeros q) x.2)) (hcp : l.cp = x.1) (hfine : fineC x.1 j = true) (hj : j ≤ 1000) (hp1 : 1 ≤ p) (hp : p ≤ 16) (hst : cpForN 4 x.1 p = none) :
    Calls Tryd.prog 12 #[.pointer (some ⟨gl, 0, none⟩), .string (toB (zeros q))] w fun e w' => e = .returned (.tuple #[.agg #[.int .i64 0, .int .i64 0, .string ⟨#[]⟩], .int .i64 21]) ∧ DAt B w' gd d ∧ LAt B w' gl gd l ∧ FrL B w w' := by
  obtain ⟨f1, f2, f3, f4, f5⟩ := fineC_le hfine
  have HPN : partsN (zeros q).length = p := by rw [hq]; exact partsN_233 p hp1
  exact append_full B gl gd d l _ (zeros q) w hl hd hi (by rw [hcp]; exact small_top _ (by omega)) (by rw [hcp, f2]; exact Nat.le_of_lt (small_top 1 (by omega))) (by rw [hcp, f3]; exact small_top _ (by omega)) (by rw [HPN]; exact hp) (by rw [HPN, cpFor_N, segs66 h66, hcp]; exact hst)
theorem drop_sim (B gl gd : Nat) (d : Dk) (l : Lg) (body : List UInt8) (x : Sim) (j : Nat) (w : World) (hl : LAt B w gl gd l) (hd : DAt B w gd d) (hi : I d l (recs body x.2)) (hleft : d.left = 0) (hcp : l.cp = x.1) (hfine : fineC x.1 j = true) (hj : j ≤ 1000) (hix : (x.1.segs.findIdx? fun s => (s.id : Int) == 0) = some 0) (h2 : 2 ≤ x.1.segs.length) :
    Calls Tryd.prog 17 #[.pointer (some ⟨gl, 0, none⟩), .int .i64 0] w fun e w' => ∃ d' l', e = .returned (.int .i64 0) ∧ DAt B w' gd d' ∧ LAt B w' gl gd l' ∧ FrL B w w' ∧ I d' l' (recs body (simDrop x).2) ∧ d'.left = 0 ∧ d'.now.length = d.now.length ∧ l'.cp = (simDrop x).1 := by
  obtain ⟨f1, f2, f3, f4, f5⟩ := fineC_le hfine
  have t1 : l.cp.serial < top := by rw [hcp]; exact small_top _ (by omega)
  have t2 : l.cp.boot ≤ top := by rw [hcp, f2]; exact Nat.le_of_lt (small_top 1 (by omega))
  have t3 : l.cp.seq ≤ top := by rw [hcp, f3]; exact Nat.le_of_lt (small_top _ (by omega))
  refine (drop_at B gl gd d l _ 0 w hl hd hi (Nat.le_of_lt t1) t2 t3).mono fun e w' h => ?_
  obtain ⟨g1, g2, g3, g4⟩ := h
  have hdr : drop d l 0 = save d l (nextC l (l.cp.segs.eraseIdx 0)) := by
    unfold drop
    rw [hcp, hix]
    simp only
    rw [if_neg (by omega)]
  rcases drop_spec (id := 0) hi t1 t2 t3 with hb | ⟨i, k1, k2, k⟩
  · exfalso
    rw [hdr] at hb
    have := congrArg (fun q => q.2.2) hb
    simp only at this
    have hfc : fitsC (nextC l (l.cp.segs.eraseIdx 0)) = true := by unfold fitsC nextC; simp only [Bool.and_eq_true, decide_eq_true_eq]; omega
    rcases save_spec (l := l) hi.idle hfc with ⟨s1, _⟩ | ⟨s1, _⟩
    · rw [s1] at this; cases this
    · rw [s1] at this; cases this
  · obtain ⟨s, hs1, hs2⟩ := k2
    have hi0 : i = 0 := by
      have e0 := (List.findIdx?_eq_some_iff_getElem.1 hix)
      obtain ⟨hlt, e1, e2⟩ := e0
      rw [hcp] at hs1
      have hnd := (hi.c.cur.ok t3).segs.nodup
      rw [hcp] at hnd
      obtain ⟨hil, hie⟩ := List.getElem?_eq_some_iff.1 hs1
      rcases Nat.eq_zero_or_pos i with h | h
      · exact h
      · exfalso
        have hp := List.pairwise_iff_getElem.1 hnd 0 i (by simpa using hlt) (by simpa using hil) h
        rw [List.getElem_map, List.getElem_map, hie] at hp
        have : ((x.1.segs[0]).id : Int) = 0 := by simpa using e1
        exact hp (by omega)
    subst hi0
    rcases k with ⟨k1, k2, k3, k4, k5⟩ | ⟨k1, k2, k3, _⟩
    · refine ⟨_, _, by rw [g1, k1], g2, g3, g4, ?_, by omega, k5, by rw [k3]; unfold nextC simDrop; rw [hcp]⟩
      rw [k3]
      have e : recs body (simDrop x).2 = without (recs body x.2) (0 : Int).toNat := (recs_without body x.2).symm
      rw [e]; exact k2
    · exact absurd hleft k3
theorem free_any (B gl gd : Nat) (d : Dk) (l : Lg) (n : Nat) (r : Int) (hn : l.cp.segs.length = n) (hr : ((4 - n : Nat) : Int) = r) (w : World) (hl : LAt B w gl gd l) (hd : DAt B w gd d) (h66 : d.now.length = 66) (h4 : n ≤ 4) :
    Calls Tryd.prog 29 #[.pointer (some ⟨gl, 0, none⟩)] w fun e w' => e = .returned (.int .i64 r) ∧ Below w.heap.size w w' := by
  obtain ⟨vS, hl⟩ := hl
  subst hr hn
  have h := free_calls B gl gd d l vS w hl hd (by omega) (by rw [segs66 h66]; exact h4)
  rw [segs66 h66] at h
  exact h
theorem segments_any (B gl gd : Nat) (l : Lg) (n : Nat) (hn : l.cp.segs.length = n) (h1 : 1 ≤ n) (h2 : n ≤ 64) (w : World) (hl : LAt B w gl gd l) :
    Calls Tryd.prog 28 #[.pointer (some ⟨gl, 0, none⟩)] w fun e w' => ∃ v', e = .returned v' ∧ SegsAt w.heap.size w' v' l.cp.segs ∧ Below w.heap.size w w' := by
  obtain ⟨vS, hl⟩ := hl
  subst hn
  exact segments_of_calls B gl gd l vS w hl h1 h2
theorem RecsAt.at2 {B : Nat} {w : World} {k n c : Nat} {l : List Rec} (h : RecsAt B w (.slice (some ⟨k, 0, none⟩) n c) l) (i : Nat) (x : Rec) (hx : l[i]? = some x) : w.cell? ⟨k, i * 3, none⟩ = some (.int .i64 x.seq) ∧ w.cell? ⟨k, i * 3 + 1, none⟩ = some (.int .i64 x.seg) ∧ w.cell? ⟨k, i * 3 + 2, none⟩ = some (.string (toB x.body)) := by
  obtain ⟨k', c', e, _, h1, h2, h3⟩ := h.at i x hx
  injection e with e1 e2 e3
  injection e1 with e1
  injection e1 with e1 _ _
  subst e1
  exact ⟨h1, h2, h3⟩
theorem DAt.less {B B' : Nat} {w : World} {g : Nat} {d : Dk} (h : DAt B w g d) (hB : B' ≤ B) : DAt B' w g d := by
  obtain ⟨kL, kN, vQ, wr, fl, h⟩ := h
  exact ⟨kL, kN, vQ, wr, fl, h.blk, own_less h.own hB, h.lst, h.nw, Nat.le_trans hB h.hL, Nat.le_trans hB h.hN, h.ne, Nat.le_trans hB h.ge, h.ok⟩
theorem DAt.frL {B : Nat} {w w' : World} {g : Nat} {d : Dk} (h : DAt B w g d) (hb : Below w.heap.size w w') : DAt B w' g d := h.step hb
theorem LAt.step {B : Nat} {w w' : World} {gl gd : Nat} {l : Lg} (h : LAt B w gl gd l) (hb : Below w.heap.size w w') : LAt B w' gl gd l := by
  obtain ⟨vS, h⟩ := h
  exact ⟨vS, h.step hb⟩
end Go.Proofs.YtfiocakhgpdlfaaDoor.Sg
