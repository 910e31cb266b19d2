/- The walk of audit.Twice: the places of the rows that did what was done already. -/
import Derived.Test.YtnmkgmfpnepmmaaGreatDoorEPa
import Derived.Test.YtnmkgmfpnepmmaaGreatDoorPAx1
namespace Go.Proofs.YtnmkgmfpnepmmaaGreatDoor.PA
open Go.RowKit Go.Proofs.YtnmkgmfpnepmmaaGreatDoorW.PrintWords Go.Proofs.YtnmkgmfpnepmmaaGreatDoorW.PrintLast Go.Proofs.YtnmkgmfpnepmmaaGreatDoorW.PrintMore
set_option linter.unusedVariables false
set_option linter.unusedSimpArgs false
set_option maxRecDepth 100000

theorem info3 : (Tryz.prog.info? 3).map (fun i => (i.zero, i.size, i.bytes)) = some (some (.int .i64 0), 1, 8) := by kernel_rfl
abbrev SA := S29
def sameRow (r x : SA) : Bool := x.f0 == r.f0 && (x.f2 == r.f2 && x.f3 == r.f3)
def chg (r : SA) : Bool := (decide (r.f3 = 2) || decide (7 ≤ r.f3 ∧ r.f3 ≤ 15)) && (decide (r.f4 = 0) && !r.f5)

theorem chg_eq (r : SA) : audit_Row_changes.f r.f0 r.f1 r.f2 r.f3 r.f4 r.f5 = some (chg r) := by
  unfold audit_Row_changes.f shape_Changes.f chg
  rw [if_pos rfl]
  by_cases h1 : r.f3 = 2
  · rw [if_pos h1]; simp [h1]
    by_cases h2 : r.f4 = 0 <;> simp [h2]
  · rw [if_neg h1]
    by_cases h3 : r.f3 = 7
    · rw [if_pos h3]; simp [h3]
      by_cases h2 : r.f4 = 0 <;> simp [h2]
    · rw [if_neg h3]
      by_cases h4 : r.f3 ≥ 8
      · rw [if_pos h4]
        by_cases h5 : r.f3 ≤ 15
        · have h6 : 7 ≤ r.f3 := by omega
          by_cases h2 : r.f4 = 0 <;> simp [h1, h2, h5, h6]
        · simp [h1, h5]
      · rw [if_neg h4]
        have h6 : ¬ 7 ≤ r.f3 := by omega
        simp [h1, h6]

/-- the closure: is a row the same as the one that it captured? -/
theorem same_calls (x r : SA) (gb : Nat) (w : World) (hb : w.heap[gb]? = some (.cells (cellsOf r) 29 (0, 0))) :
    Calls Tryz.prog 13 #[.agg (cellsOf x), .pointer (some ⟨gb, 0, none⟩)] w fun e w' => e = .returned (.bool (sameRow r x)) ∧ Below w.heap.size w w' := by
  have hu := Tryz.underlying29
  have HB0 := Aside0.mk hb
  have HLT := blk_lt hb
  clear hb
  unfold cellsOf
  have y0 : ∀ o : Obj, (w.alloc o).cell? ⟨gb, 0, none⟩ = some (.int .i64 r.f0) := fun o => (World.cell?_alloc_lt w o ⟨gb, 0, none⟩ HLT).trans ((blk_cell HB0.out 0).trans rfl)
  have y2 : ∀ o : Obj, (w.alloc o).cell? ⟨gb, 2, none⟩ = some (.int .i64 r.f2) := fun o => (World.cell?_alloc_lt w o ⟨gb, 2, none⟩ HLT).trans ((blk_cell HB0.out 2).trans rfl)
  have y3 : ∀ o : Obj, (w.alloc o).cell? ⟨gb, 3, none⟩ = some (.int .i64 r.f3) := fun o => (World.cell?_alloc_lt w o ⟨gb, 3, none⟩ HLT).trans ((blk_cell HB0.out 3).trans rfl)
  clear HLT
  go_enter Tryz.func13, Tryz.ntmps13
  go_wp2
  all_goals go_ret
  all_goals refine ⟨?_, below_alloc (Below.refl _ _) _⟩
  all_goals (clear y0 y2 y3; simp only [sameRow]; simp_all)

theorem idx_same (r : SA) (gb : Nat) (A : Option Addr) (c n : Nat) (xs : List SA) (w : World) (hx : xs.length = n) (hC : k29.C w A n xs) (hc : n ≤ c) (hn : n ≤ 4398046511104) (hb : w.heap[gb]? = some (.cells (cellsOf r) 29 (0, 0))) :
    Calls Tryz.prog 28 #[.slice A n c, .func (.func 13) #[] #[.pointer (some ⟨gb, 0, none⟩)]] w fun e w' =>
      (∃ i : Int, e = .returned (.int .i64 i) ∧ (decide (0 ≤ i) = xs.any (sameRow r))) ∧ Below w.heap.size w w' := by
  subst hx
  have HC := Aside0.mk hC
  have HB0 := Aside0.mk hb
  have hu := Tryz.underlying29
  clear hb hC
  go_enter Tryz.func28, Tryz.ntmps28
  go_wp2_with fail
  go_loopw [8] (fun i W => ∃ k : Nat, k ≤ xs.length ∧ i = .int .i64 k ∧ Aside0 ((xs.take k).any (sameRow r) = false) ∧ Aside0 (Below w.heap.size w W)) (fun i _ => xs.length - (intOf i).toNat)
  case atStart => exact ⟨0, Nat.zero_le _, rfl, ⟨rfl⟩, ⟨Below.refl _ _⟩⟩
  case round =>
    rename_i wr
    obtain ⟨k, hk, rfl, HN, HB⟩ := hrel
    by_cases hlt : k < xs.length
    · obtain ⟨ad, rfl, hc0, hc1, hc2, hc3, hc4, hc5⟩ := at_T29 HC.out k (by omega) (by omega)
      simp only [Int.toNat_natCast] at hc0 hc1 hc2 hc3 hc4 hc5
      replace hc0 := (HB.out.cell (World.block_lt_of_cell? w _ hc0)).trans hc0
      replace hc1 := (HB.out.cell (World.block_lt_of_cell? w _ hc1)).trans hc1
      replace hc2 := (HB.out.cell (World.block_lt_of_cell? w _ hc2)).trans hc2
      replace hc3 := (HB.out.cell (World.block_lt_of_cell? w _ hc3)).trans hc3
      replace hc4 := (HB.out.cell (World.block_lt_of_cell? w _ hc4)).trans hc4
      replace hc5 := (HB.out.cell (World.block_lt_of_cell? w _ hc5)).trans hc5
      obtain ⟨x, hx⟩ : ∃ x, x = rd_T29 xs k := ⟨_, rfl⟩
      rw [← hx] at hc0 hc1 hc2 hc3 hc4 hc5
      have HSm := Lib.hid (same_calls x r gb wr (Lb.blk_below HB0.out (HB.out)))
      have htk : xs.take (k + 1) = xs.take k ++ [x] := by rw [List.take_succ_eq_append_getElem hlt, hx]; congr 2; show _ = xs.getD _ _; rw [List.getD_eq_getElem?_getD]; simp [List.getElem?_eq_getElem hlt]
      have hmem : x ∈ xs := by rw [hx]; exact rd_mem hlt
      clear hx
      cases hs : sameRow r x with
      | true =>
        have HY : Aside0 (xs.any (sameRow r) = true) := ⟨List.any_eq_true.2 ⟨x, hmem, hs⟩⟩
        rw [hs] at HSm
        clear hs htk hmem
        go_wp2_with (go_at_call 13; refine HSm.out.mono ?_; rintro e w1 ⟨rfl, hb1⟩; have HB1 := Aside0.mk (below_step HB.out hb1); clear hb1 hc0 hc1 hc2 hc3 hc4 hc5)
        go_ret
        exact ⟨⟨_, rfl, by rw [HY.out]; simp⟩, HB1.out⟩
      | false =>
        have HN2 : Aside0 ((xs.take (k + 1)).any (sameRow r) = false) := ⟨by rw [htk, List.any_append, HN.out]; simp [hs]⟩
        rw [hs] at HSm
        clear hs htk hmem
        go_wp2_with (go_at_call 13; refine HSm.out.mono ?_; rintro e w1 ⟨rfl, hb1⟩; have HB1 := Aside0.mk (below_step HB.out hb1); clear hb1 hc0 hc1 hc2 hc3 hc4 hc5)
        go_roundw
        case rel => exact ⟨k + 1, by omega, by go_num, HN2, HB1⟩
        case measure => simp [intOf]; omega
    · obtain rfl : k = xs.length := by omega
      go_wp2
      go_ret
      refine ⟨⟨_, rfl, ?_⟩, HB.out⟩
      have := HN.out
      rw [List.take_length] at this
      rw [this]
      rfl

theorem contains_same (r : SA) (gb : Nat) (A : Option Addr) (c n : Nat) (xs : List SA) (w : World) (hx : xs.length = n) (hC : k29.C w A n xs) (hc : n ≤ c) (hn : n ≤ 4398046511104) (hb : w.heap[gb]? = some (.cells (cellsOf r) 29 (0, 0))) :
    Calls Tryz.prog 14 #[.slice A n c, .func (.func 13) #[] #[.pointer (some ⟨gb, 0, none⟩)]] w fun e w' =>
      e = .returned (.bool (xs.any (sameRow r))) ∧ Below w.heap.size w w' := by
  have HI := Lib.hid (idx_same r gb A c n xs w hx hC hc hn hb)
  clear hC hb hx
  go_enter Tryz.func14, Tryz.ntmps14
  go_wp2_with (go_at_call 28; refine HI.out.mono ?_; rintro e w1 ⟨⟨i, rfl, hi⟩, hb1⟩; have HX := Lib.hid hi; clear hi)
  go_ret
  rw [← HX.out]
  exact ⟨by simp, hb1⟩
end Go.Proofs.YtnmkgmfpnepmmaaGreatDoor.PA
