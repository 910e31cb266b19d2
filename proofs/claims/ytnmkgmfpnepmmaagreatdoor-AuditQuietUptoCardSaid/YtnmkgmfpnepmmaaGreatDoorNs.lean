/- Nil is sorted; what Totals, Uses, Rows and Pace tell of nothing. -/
import Derived.Test.YtnmkgmfpnepmmaaGreatDoorNl
import Derived.Test.YtnmkgmfpnepmmaaGreatDoorEPa
namespace Go.Proofs.YtnmkgmfpnepmmaaGreatDoor.Mp
open Go.RowKit Go.Maps Go.Sort Go.Shelf Go.Proofs.YtnmkgmfpnepmmaaGreatDoorW.PrintWords Go.Proofs.YtnmkgmfpnepmmaaGreatDoorW.PrintLast Go.Proofs.YtnmkgmfpnepmmaaGreatDoorW.PrintMore
set_option linter.unusedVariables false
set_option linter.unusedSimpArgs false
set_option maxRecDepth 100000

theorem len_zero (w : World) : Calls Tryz.prog 56 #[.int .u64 0] w fun e w' => e = .returned (.int .i64 0) ∧ w' = w := by
  have h := Tryz.bits_Len 0 w (by decide) (by decide)
  have e0 : Lib.bitLen (0 : Int).toNat = 0 := by decide
  rw [e0] at h
  exact h

theorem kins (w : World) : Calls Tryz.prog 84 #[.slice none 0 0, .int .i64 0, .int .i64 0] w fun e w' => (∃ v, e = .returned v) ∧ w' = w := by
  go_enter Tryz.func84, Tryz.ntmps84
  go_wp2
  refine wp_loop_rounds 1 ?_
  rw [rounds_succ]
  go_wp2_with fail
  go_end0
  exact ⟨⟨_, rfl⟩, rfl⟩

theorem kpdq (w : World) : Calls Tryz.prog 55 #[.slice none 0 0, .int .i64 0, .int .i64 0, .int .i64 0] w fun e w' => (∃ v, e = .returned v) ∧ w' = w := by
  have HI := kins w
  go_enter Tryz.func55, Tryz.ntmps55
  go_wp2
  refine wp_loop_rounds 1 ?_
  rw [rounds_succ]
  go_wp2_with (go_at_call 84; refine HI.mono ?_; rintro e w1 ⟨⟨v, rfl⟩, rfl⟩)
  first | go_end0 | (refine bodyPost_ret (results_none rfl _ _ _) rfl ?_)
  exact ⟨⟨_, rfl⟩, rfl⟩

theorem ksort (w : World) : Calls Tryz.prog 32 #[.slice none 0 0] w fun e w' => (∃ v, e = .returned v) ∧ w' = w := by
  have HI := kpdq w
  have HL := len_zero w
  go_enter Tryz.func32, Tryz.ntmps32
  go_wp2_with (first
    | (go_at_call 55; refine HI.mono ?_; rintro e w1 ⟨⟨v, rfl⟩, rfl⟩)
    | (go_at_call 56; refine HL.mono ?_; rintro e w1 ⟨rfl, rfl⟩))
  go_end0
  exact ⟨⟨_, rfl⟩, rfl⟩

theorem ksorted (Bm b nn : Nat) (R : Value → Option (DataW Unit × List MemPlace)) (D0 : DataW Unit) (w : World) (hBm : Bm < w.heap.size) (hm : w.cell? ⟨Bm, 0, none⟩ = some (.map (some b)))
    (hown : w.ownsMap Tryz.prog 3 R b nn D0) (hz : Maps.size D0 = 0) :
    Calls Tryz.prog 16 #[.func (.func 33) #[] #[.pointer (some ⟨Bm, 0, none⟩)]] w fun e w' => e = .returned (.slice none 0 0) ∧ Below w.heap.size w w' := by
  have HC := kcol Bm b nn R D0 w hBm hm hown hz
  clear hBm hm hown hz
  have HI := ksort 
  go_enter Tryz.func16, Tryz.ntmps16
  go_wp2_with (first
    | (go_at_call 31; refine HC.mono ?_; rintro e w1 ⟨rfl, hb1⟩)
    | (go_at_call 32; refine (HI _).mono ?_; rintro e w2 ⟨⟨v, rfl⟩, rfl⟩))
  go_ret
  exact ⟨rfl, hb1⟩

theorem vins (f : Value) (w : World) : Calls Tryz.prog 105 #[.slice none 0 0, .int .i64 0, .int .i64 0, f] w fun e w' => (∃ v, e = .returned v) ∧ w' = w := by
  go_enter Tryz.func105, Tryz.ntmps105
  go_wp2
  refine wp_loop_rounds 1 ?_
  rw [rounds_succ]
  go_wp2_with fail
  go_end0
  exact ⟨⟨_, rfl⟩, rfl⟩

theorem vpdq (f : Value) (w : World) : Calls Tryz.prog 73 #[.slice none 0 0, .int .i64 0, .int .i64 0, .int .i64 0, f] w fun e w' => (∃ v, e = .returned v) ∧ w' = w := by
  have HI := vins f w
  go_enter Tryz.func73, Tryz.ntmps73
  go_wp2
  refine wp_loop_rounds 1 ?_
  rw [rounds_succ]
  go_wp2_with (go_at_call 105; refine HI.mono ?_; rintro e w1 ⟨⟨v, rfl⟩, rfl⟩)
  first | go_end0 | (refine bodyPost_ret (results_none rfl _ _ _) rfl ?_)
  exact ⟨⟨_, rfl⟩, rfl⟩

theorem vsort (f : Value) (w : World) : Calls Tryz.prog 44 #[.slice none 0 0, f] w fun e w' => (∃ v, e = .returned v) ∧ w' = w := by
  have HI := vpdq f w
  have HL := len_zero w
  go_enter Tryz.func44, Tryz.ntmps44
  go_wp2_with (first
    | (go_at_call 73; refine HI.mono ?_; rintro e w1 ⟨⟨v, rfl⟩, rfl⟩)
    | (go_at_call 56; refine HL.mono ?_; rintro e w1 ⟨rfl, rfl⟩))
  go_end0
  exact ⟨⟨_, rfl⟩, rfl⟩

theorem vsorted (f : Value) (Bm b nn : Nat) (R : Value → Option (DataW Unit × List MemPlace)) (D0 : DataW Unit) (w : World) (hBm : Bm < w.heap.size) (hm : w.cell? ⟨Bm, 0, none⟩ = some (.map (some b)))
    (hown : w.ownsMap Tryz.prog 3 R b nn D0) (hz : Maps.size D0 = 0) :
    Calls Tryz.prog 21 #[.func (.func 45) #[] #[.pointer (some ⟨Bm, 0, none⟩)], f] w fun e w' => e = .returned (.slice none 0 0) ∧ Below w.heap.size w w' := by
  have HC := vcol Bm b nn R D0 w hBm hm hown hz
  clear hBm hm hown hz
  have HI := vsort f
  go_enter Tryz.func21, Tryz.ntmps21
  go_wp2_with (first
    | (go_at_call 43; refine HC.mono ?_; rintro e w1 ⟨rfl, hb1⟩)
    | (go_at_call 44; refine (HI _).mono ?_; rintro e w2 ⟨⟨v, rfl⟩, rfl⟩))
  go_ret
  exact ⟨rfl, hb1⟩

/-- the world with an empty map in it, and its box -/
theorem made (w : World) (T : TypeId) : ((w.alloc (.map #[] 0)).alloc (.cells #[.map (some w.heap.size)] T)).ownsMap Tryz.prog 3 (fun _ => none) w.heap.size 0 (.map [] : DataW Unit) := by
  have h := World.ownsMap_made w Tryz.prog 3 (fun _ => none : Value → Option (DataW Unit × List MemPlace))
  have hbl := h.lt
  obtain ⟨es, clock, hb, Ft, hs, hD⟩ := h
  exact ⟨es, clock, (Below.heap_alloc _ _ _ hbl).trans hb, Ft, hs, hD⟩

theorem made_cell (w : World) (T : TypeId) : ((w.alloc (.map #[] 0)).alloc (.cells #[.map (some w.heap.size)] T)).cell? ⟨w.heap.size + 1, 0, none⟩ = some (.map (some w.heap.size)) := by
  have h := World.alloc_heap_new (w.alloc (.map #[] 0)) (.cells #[.map (some w.heap.size)] T)
  rw [World.size_alloc] at h
  exact (blk_cell h 0).trans rfl

theorem keys_made (mb : Option Nat) (w : World) : Calls Tryz.prog 17 #[.map mb] w fun e w' =>
    e = .returned (.func (.func 33) #[] #[.pointer (some ⟨w.heap.size, 0, none⟩)]) ∧ w' = w.alloc (.cells #[.map mb] 57) := by
  go_enter Tryz.func17, Tryz.ntmps17
  go_wp2
  go_ret
  exact ⟨rfl, rfl⟩
theorem vals_made (mb : Option Nat) (w : World) : Calls Tryz.prog 22 #[.map mb] w fun e w' =>
    e = .returned (.func (.func 45) #[] #[.pointer (some ⟨w.heap.size, 0, none⟩)]) ∧ w' = w.alloc (.cells #[.map mb] 65) := by
  go_enter Tryz.func22, Tryz.ntmps22
  go_wp2
  go_ret
  exact ⟨rfl, rfl⟩

/-- one round of a loop that ends at once -/
theorem totals_nil (w : World) : Calls Tryz.prog 9 #[.slice none 0 0] w fun e w' => e = .returned (.slice none 0 0) ∧ Below w.heap.size w w' := by
  have hmm := @run_makeMap Tryz.prog
  have HS := ksorted (w.heap.size + 1) w.heap.size 0 _ _ _ (by simp) (made_cell w 57) (made w 57) rfl
  go_enter Tryz.func9, Tryz.ntmps9
  go_wp2_with fail
  refine wp_loop_rounds 1 ?_
  rw [rounds_succ]
  go_wp2_with (first
    | (go_at_call 17; refine (keys_made _ _).mono ?_; rintro e w1 ⟨rfl, rfl⟩; rw [World.size_alloc])
    | (go_at_call 16; refine HS.mono ?_; rintro e w1 ⟨rfl, hb1⟩))
  refine wp_loop_rounds 1 ?_
  rw [rounds_succ]
  go_wp2_with fail
  go_ret
  exact ⟨rfl, (below_alloc (below_alloc (Below.refl _ _) _) _).trans (hb1.mono (by simp; omega))⟩

theorem uses_nil (w : World) : Calls Tryz.prog 10 #[.slice none 0 0] w fun e w' => e = .returned (.slice none 0 0) ∧ Below w.heap.size w w' := by
  have hmm := @run_makeMap Tryz.prog
  have HS := fun f => vsorted f (w.heap.size + 1) w.heap.size 0 _ _ _ (by simp) (made_cell w 65) (made w 65) rfl
  go_enter Tryz.func10, Tryz.ntmps10
  go_wp2_with fail
  refine wp_loop_rounds 1 ?_
  rw [rounds_succ]
  go_wp2_with (first
    | (go_at_call 22; refine (vals_made _ _).mono ?_; rintro e w1 ⟨rfl, rfl⟩; rw [World.size_alloc])
    | (go_at_call 21; refine (HS _).mono ?_; rintro e w1 ⟨rfl, hb1⟩))
  go_ret
  exact ⟨rfl, (below_alloc (below_alloc (Below.refl _ _) _) _).trans (hb1.mono (by simp; omega))⟩

theorem rows_nil (w : World) : Calls Tryz.prog 8 #[.slice none 0 0] w fun e w' => e = .returned (.slice none 0 0) ∧ w' = w := by
  go_enter Tryz.func8, Tryz.ntmps8
  go_wp2_with fail
  refine wp_loop_rounds 1 ?_
  rw [rounds_succ]
  go_wp2_with fail
  go_ret
  exact ⟨rfl, rfl⟩
end Go.Proofs.YtnmkgmfpnepmmaaGreatDoor.Mp

