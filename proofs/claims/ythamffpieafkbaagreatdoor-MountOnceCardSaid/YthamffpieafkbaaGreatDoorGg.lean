/- The walk of shape.Of. The walk of shape.Of. -/
import Derived.Test.YthamffpieafkbaaGreatDoorGf
import Derived.Deep.RegionWith
namespace Go.Proofs.YthamffpieafkbaaGreatDoor.Mo
open Go.RowKit Go.Lib Go.Proofs.YthamffpieafkbaaGreatDoorW.PrintWords Go.Proofs.YthamffpieafkbaaGreatDoorW.PrintLast Go.Proofs.YthamffpieafkbaaGreatDoorW.PrintMore
set_option linter.unusedVariables false
set_option linter.unusedSimpArgs false

theorem drew_below (w : World) : Below w.heap.size w w.drew := ⟨rfl, rfl, rfl, Nat.le_refl _, fun _ _ => rfl⟩

theorem below_drew {W w4 : World} (h : Below W.drew.heap.size W.drew w4) : Below W.heap.size W w4 := ⟨h.os, h.tape, h.output, h.size, fun k hk => h.block k hk⟩
theorem cell_after {W w4 : World} {a : Addr} {v : Value} (h : Below W.drew.heap.size W.drew w4) (hc : W.cell? a = some v) : w4.cell? a = some v := Lib.Below.cellOf h (by rw [World.cell?_drew]; exact hc) (Nat.le_refl _)

set_option maxRecDepth 100000 in
set_option maxHeartbeats 4000000 in
theorem of_nfs (p m : Int) (hp : ¬ p = 0) (w : World) (hm : w.cell? ⟨0, 0, none⟩ = some (.int .i64 m)) :
    Calls Tryz.prog 14 #[.int .i64 100003, .int .i64 p] w fun e w' => e = .returned (.tuple #[.string ⟨(ofF 100003 p).1.toArray⟩, .string ⟨(ofF 100003 p).2.1.toArray⟩, .bool (ofF 100003 p).2.2]) ∧ Below w.heap.size w w' := by
  have HS := Aside0.mk (raw_short 100003 p)
  obtain ⟨a, ha⟩ : ∃ a, a = (rawOf 100003 p).1 := ⟨_, rfl⟩
  obtain ⟨b, hb⟩ : ∃ b, b = (rawOf 100003 p).2.1 := ⟨_, rfl⟩
  have hWa : ∀ W : World, W.cell? ⟨0, 0, none⟩ = some (.int .i64 m) → Calls Tryz.prog 29 #[.string a] W fun e w' => e = .returned (.string ⟨(Rb.wr a.data.toList).toArray⟩) ∧ Below W.heap.size W w' := fun W hW => Rb.written_calls a m W hW (by rw [ha]; exact HS.out.1) (by rw [ha]; exact HS.out.2.2.1)
  have hWb : ∀ W : World, W.cell? ⟨0, 0, none⟩ = some (.int .i64 m) → Calls Tryz.prog 29 #[.string b] W fun e w' => e = .returned (.string ⟨(Rb.wr b.data.toList).toArray⟩) ∧ Below W.heap.size W w' := fun W hW => Rb.written_calls b m W hW (by rw [hb]; exact HS.out.2.1) (by rw [hb]; exact HS.out.2.2.2)
  have HM := Aside0.mk hm
  have HWA := Aside0.mk hWa
  have HWB := Aside0.mk hWb
  clear hWa hWb hm
  have hp0 : (p == 0) = false := by simp [hp]
  have hN := nfs_any p
  rw [← ha, ← hb] at hN
  have HN := Aside0.mk hN
  obtain ⟨ok, hok⟩ : ∃ ok, ok = decide (1 ≤ p ∧ p < 22) := ⟨_, rfl⟩
  have HOK := Aside0.mk hok
  have HOF : Aside0 (ofF 100003 p = (Rb.wr a.data.toList, Rb.wr b.data.toList, ok)) := ⟨by
    rw [ofF, ← ha, ← hb, hok]
    congr 2
    by_cases hin : 1 ≤ p ∧ p < 22
    · rw [decide_eq_true hin, rawOf]; rw [if_pos ⟨rfl, hin⟩]
    · rw [decide_eq_false hin, rawOf, if_neg (by omega), if_neg (by omega)]
      exact decide_eq_false (fun h => hp h.1)⟩
  clear hN ha hb
  cases ok
  all_goals
      clear hok
      go_enter Tryz.func14, Tryz.ntmps14
      go_wp2_with (first
        | ((with_reducible refine gate_dst (N := 7) rfl ?_); refine box_event ?hg (N := 7) ?hd (cs := #[.string ⟨#[]⟩, .string ⟨#[]⟩, .string ⟨#[]⟩]) (t := 75) ?hr ?_; (case hd => rfl); (case hg => rfl); (case hr => first | (go_simp; done) | (go_simp; rfl)); intro g1 hg1 w1 hbox1 hb1; have HB1 := Aside0.mk hb1; have HX1 := Aside0.mk hbox1; have HG1 := Aside0.mk (show w.heap.size ≤ g1 by omega); clear hbox1 hb1 hg1)
        | (go_at_call 27; refine (HN.out _).mono ?_; rintro e w2 ⟨rfl, hw2⟩; rw [← HOK.out]; have HB2 := Aside0.mk (below_step HB1.out hw2); have HX2 := Aside0.mk (Lb.blk_below HX1.out hw2); clear hw2)
        | ((with_reducible refine gate_store (t := 75) (p := 7) rfl ?_); refine Lb.store_whole rfl rfl 75 (.tmp 7) (.tmp 28) rfl (new := #[.string a, .string b, .string (rawOf 100003 p).2.2.1]) rfl rfl HX2.out rfl (by kernel_rfl) (by simp [Value.oneCell']) ?_; intro w3 hb3 hg3; have HX3 := Aside0.mk hb3; have HB3 := Aside0.mk (Lb.grown_below HB2.out hg3 HB2.out.size HG1.out); have d0 := (blk_cell hb3 0).trans rfl; have d1 := (blk_cell hb3 1).trans rfl; have hm3 := Lib.Below.cellOf HB3.out HM.out (Nat.le_refl _); clear hb3 hg3))
      go_region_with (first
        | (go_at_call_of 29 (Value.string a); refine (HWA.out _ ?_).mono ?_; (first | exact hm3 | (simpa using hm3)); rintro e w4 ⟨rfl, hw4⟩; have HB4 := Aside0.mk hw4; have hm4 := cell_after hw4 hm3; have d14 := cell_after hw4 d1; clear hw4)
        | (go_at_call_of 29 (Value.string b); refine (HWB.out _ ?_).mono ?_; (first | exact hm4 | (simpa using hm4)); rintro e w5 ⟨rfl, hw5⟩; have HB5 := Aside0.mk hw5; clear hw5))
      all_goals
        go_wp2
        go_ret3
        rw [HOF.out]
        exact ⟨rfl, below_step (below_step HB3.out (below_drew HB4.out)) HB5.out⟩

set_option maxRecDepth 100000 in
set_option maxHeartbeats 4000000 in
theorem of_mount (p m : Int) (hp : ¬ p = 0) (w : World) (hm : w.cell? ⟨0, 0, none⟩ = some (.int .i64 m)) :
    Calls Tryz.prog 14 #[.int .i64 100005, .int .i64 p] w fun e w' => e = .returned (.tuple #[.string ⟨(ofF 100005 p).1.toArray⟩, .string ⟨(ofF 100005 p).2.1.toArray⟩, .bool (ofF 100005 p).2.2]) ∧ Below w.heap.size w w' := by
  have HS := Aside0.mk (raw_short 100005 p)
  obtain ⟨a, ha⟩ : ∃ a, a = (rawOf 100005 p).1 := ⟨_, rfl⟩
  obtain ⟨b, hb⟩ : ∃ b, b = (rawOf 100005 p).2.1 := ⟨_, rfl⟩
  have hWa : ∀ W : World, W.cell? ⟨0, 0, none⟩ = some (.int .i64 m) → Calls Tryz.prog 29 #[.string a] W fun e w' => e = .returned (.string ⟨(Rb.wr a.data.toList).toArray⟩) ∧ Below W.heap.size W w' := fun W hW => Rb.written_calls a m W hW (by rw [ha]; exact HS.out.1) (by rw [ha]; exact HS.out.2.2.1)
  have hWb : ∀ W : World, W.cell? ⟨0, 0, none⟩ = some (.int .i64 m) → Calls Tryz.prog 29 #[.string b] W fun e w' => e = .returned (.string ⟨(Rb.wr b.data.toList).toArray⟩) ∧ Below W.heap.size W w' := fun W hW => Rb.written_calls b m W hW (by rw [hb]; exact HS.out.2.1) (by rw [hb]; exact HS.out.2.2.2)
  have HM := Aside0.mk hm
  have HWA := Aside0.mk hWa
  have HWB := Aside0.mk hWb
  clear hWa hWb hm
  have hp0 : (p == 0) = false := by simp [hp]
  have hN := mount_any p
  rw [← ha, ← hb] at hN
  have HN := Aside0.mk hN
  obtain ⟨ok, hok⟩ : ∃ ok, ok = decide (1 ≤ p ∧ p < 6) := ⟨_, rfl⟩
  have HOK := Aside0.mk hok
  have HOF : Aside0 (ofF 100005 p = (Rb.wr a.data.toList, Rb.wr b.data.toList, ok)) := ⟨by
    rw [ofF, ← ha, ← hb, hok]
    congr 2
    by_cases hin : 1 ≤ p ∧ p < 6
    · rw [decide_eq_true hin, rawOf]; rw [if_neg (by omega), if_pos ⟨rfl, hin⟩]
    · rw [decide_eq_false hin, rawOf, if_neg (by omega), if_neg (by omega)]
      exact decide_eq_false (fun h => hp h.1)⟩
  clear hN ha hb
  cases ok
  all_goals
      clear hok
      go_enter Tryz.func14, Tryz.ntmps14
      go_wp2_with (first
        | ((with_reducible refine gate_dst (N := 7) rfl ?_); refine box_event ?hg (N := 7) ?hd (cs := #[.string ⟨#[]⟩, .string ⟨#[]⟩, .string ⟨#[]⟩]) (t := 75) ?hr ?_; (case hd => rfl); (case hg => rfl); (case hr => first | (go_simp; done) | (go_simp; rfl)); intro g1 hg1 w1 hbox1 hb1; have HB1 := Aside0.mk hb1; have HX1 := Aside0.mk hbox1; have HG1 := Aside0.mk (show w.heap.size ≤ g1 by omega); clear hbox1 hb1 hg1)
        | (go_at_call 28; refine (HN.out _).mono ?_; rintro e w2 ⟨rfl, hw2⟩; rw [← HOK.out]; have HB2 := Aside0.mk (below_step HB1.out hw2); have HX2 := Aside0.mk (Lb.blk_below HX1.out hw2); clear hw2)
        | ((with_reducible refine gate_store (t := 75) (p := 7) rfl ?_); refine Lb.store_whole rfl rfl 75 (.tmp 7) (.tmp 39) rfl (new := #[.string a, .string b, .string (rawOf 100005 p).2.2.1]) rfl rfl HX2.out rfl (by kernel_rfl) (by simp [Value.oneCell']) ?_; intro w3 hb3 hg3; have HX3 := Aside0.mk hb3; have HB3 := Aside0.mk (Lb.grown_below HB2.out hg3 HB2.out.size HG1.out); have d0 := (blk_cell hb3 0).trans rfl; have d1 := (blk_cell hb3 1).trans rfl; have hm3 := Lib.Below.cellOf HB3.out HM.out (Nat.le_refl _); clear hb3 hg3))
      go_region_with (first
        | (go_at_call_of 29 (Value.string a); refine (HWA.out _ ?_).mono ?_; (first | exact hm3 | (simpa using hm3)); rintro e w4 ⟨rfl, hw4⟩; have HB4 := Aside0.mk hw4; have hm4 := cell_after hw4 hm3; have d14 := cell_after hw4 d1; clear hw4)
        | (go_at_call_of 29 (Value.string b); refine (HWB.out _ ?_).mono ?_; (first | exact hm4 | (simpa using hm4)); rintro e w5 ⟨rfl, hw5⟩; have HB5 := Aside0.mk hw5; clear hw5))
      all_goals
        go_wp2
        go_ret3
        rw [HOF.out]
        exact ⟨rfl, below_step (below_step HB3.out (below_drew HB4.out)) HB5.out⟩

end Go.Proofs.YthamffpieafkbaaGreatDoor.Mo

namespace Go.Proofs.YthamffpieafkbaaGreatDoor.Mo
open Go.RowKit Go.Lib Go.Proofs.YthamffpieafkbaaGreatDoorW.PrintWords Go.Proofs.YthamffpieafkbaaGreatDoorW.PrintLast Go.Proofs.YthamffpieafkbaaGreatDoorW.PrintMore
set_option linter.unusedVariables false
set_option linter.unusedSimpArgs false

set_option maxRecDepth 100000 in
set_option maxHeartbeats 4000000 in
theorem of_zero_n (p m : Int) (hp : p = 0) (w : World) (hm : w.cell? ⟨0, 0, none⟩ = some (.int .i64 m)) :
    Calls Tryz.prog 14 #[.int .i64 100003, .int .i64 p] w fun e w' => e = .returned (.tuple #[.string ⟨(ofF 100003 p).1.toArray⟩, .string ⟨(ofF 100003 p).2.1.toArray⟩, .bool (ofF 100003 p).2.2]) ∧ Below w.heap.size w w' := by
  have HS := Aside0.mk (raw_short 100003 p)
  obtain ⟨a, ha⟩ : ∃ a, a = (rawOf 100003 p).1 := ⟨_, rfl⟩
  obtain ⟨b, hb⟩ : ∃ b, b = (rawOf 100003 p).2.1 := ⟨_, rfl⟩
  have hWa : ∀ W : World, W.cell? ⟨0, 0, none⟩ = some (.int .i64 m) → Calls Tryz.prog 29 #[.string a] W fun e w' => e = .returned (.string ⟨(Rb.wr a.data.toList).toArray⟩) ∧ Below W.heap.size W w' := fun W hW => Rb.written_calls a m W hW (by rw [ha]; exact HS.out.1) (by rw [ha]; exact HS.out.2.2.1)
  have hWb : ∀ W : World, W.cell? ⟨0, 0, none⟩ = some (.int .i64 m) → Calls Tryz.prog 29 #[.string b] W fun e w' => e = .returned (.string ⟨(Rb.wr b.data.toList).toArray⟩) ∧ Below W.heap.size W w' := fun W hW => Rb.written_calls b m W hW (by rw [hb]; exact HS.out.2.1) (by rw [hb]; exact HS.out.2.2.2)
  have HM := Aside0.mk hm
  have HWA := Aside0.mk hWa
  have HWB := Aside0.mk hWb
  clear hWa hWb hm
  have hraw : rawOf 100003 p = (⟨#[]⟩, ⟨#[]⟩, ⟨#[]⟩, decide (p = 0 ∧ (100003 = (100003 : Int) ∨ 100003 = (100005 : Int)))) := by
    rw [rawOf, if_neg (by omega), if_neg (by omega)]
  obtain ⟨ok, hok⟩ : ∃ ok, ok = decide (p = 0 ∧ (100003 = (100003 : Int) ∨ 100003 = (100005 : Int))) := ⟨_, rfl⟩
  have ha' : a = ⟨#[]⟩ := by rw [ha, hraw]
  have hb' : b = ⟨#[]⟩ := by rw [hb, hraw]
  have HOF : Aside0 (ofF 100003 p = (Rb.wr a.data.toList, Rb.wr b.data.toList, ok)) := ⟨by
    rw [ofF, ← ha, ← hb, hok, hraw]⟩
  have hokv : ok = true := by rw [hok]; simp [hp]
  subst hp
  clear hraw ha hb
  have HOK := Aside0.mk hok
  subst hokv
  clear hok
  go_enter Tryz.func14, Tryz.ntmps14
  go_wp2_with (first
        | ((with_reducible refine gate_dst (N := 7) rfl ?_); refine box_event ?hg (N := 7) ?hd (cs := #[.string a, .string b, .string ⟨#[]⟩]) (t := 75) ?hr ?_; (case hd => rfl); (case hg => rfl); (case hr => (rw [ha', hb']); first | (go_simp; done) | (go_simp; rfl)); intro g1 hg1 w3 hb3 hb1; have HB3 := Aside0.mk hb1; have d0 := (blk_cell hb3 0).trans rfl; have d1 := (blk_cell hb3 1).trans rfl; have hm3 := Lib.Below.cellOf HB3.out HM.out (Nat.le_refl _); clear ha' hb' hb3 hb1 hg1))
  go_region_with (first
        | (go_at_call_of 29 (Value.string a); refine (HWA.out _ ?_).mono ?_; (first | exact hm3 | (simpa using hm3)); rintro e w4 ⟨rfl, hw4⟩; have HB4 := Aside0.mk hw4; have hm4 := cell_after hw4 hm3; have d14 := cell_after hw4 d1; clear hw4)
        | (go_at_call_of 29 (Value.string b); refine (HWB.out _ ?_).mono ?_; (first | exact hm4 | (simpa using hm4)); rintro e w5 ⟨rfl, hw5⟩; have HB5 := Aside0.mk hw5; clear hw5))
  all_goals
        go_wp2
        go_ret3
        rw [HOF.out]
        exact ⟨rfl, below_step (below_step HB3.out (below_drew HB4.out)) HB5.out⟩

set_option maxRecDepth 100000 in
set_option maxHeartbeats 4000000 in
theorem of_zero_m (p m : Int) (hp : p = 0) (w : World) (hm : w.cell? ⟨0, 0, none⟩ = some (.int .i64 m)) :
    Calls Tryz.prog 14 #[.int .i64 100005, .int .i64 p] w fun e w' => e = .returned (.tuple #[.string ⟨(ofF 100005 p).1.toArray⟩, .string ⟨(ofF 100005 p).2.1.toArray⟩, .bool (ofF 100005 p).2.2]) ∧ Below w.heap.size w w' := by
  have HS := Aside0.mk (raw_short 100005 p)
  obtain ⟨a, ha⟩ : ∃ a, a = (rawOf 100005 p).1 := ⟨_, rfl⟩
  obtain ⟨b, hb⟩ : ∃ b, b = (rawOf 100005 p).2.1 := ⟨_, rfl⟩
  have hWa : ∀ W : World, W.cell? ⟨0, 0, none⟩ = some (.int .i64 m) → Calls Tryz.prog 29 #[.string a] W fun e w' => e = .returned (.string ⟨(Rb.wr a.data.toList).toArray⟩) ∧ Below W.heap.size W w' := fun W hW => Rb.written_calls a m W hW (by rw [ha]; exact HS.out.1) (by rw [ha]; exact HS.out.2.2.1)
  have hWb : ∀ W : World, W.cell? ⟨0, 0, none⟩ = some (.int .i64 m) → Calls Tryz.prog 29 #[.string b] W fun e w' => e = .returned (.string ⟨(Rb.wr b.data.toList).toArray⟩) ∧ Below W.heap.size W w' := fun W hW => Rb.written_calls b m W hW (by rw [hb]; exact HS.out.2.1) (by rw [hb]; exact HS.out.2.2.2)
  have HM := Aside0.mk hm
  have HWA := Aside0.mk hWa
  have HWB := Aside0.mk hWb
  clear hWa hWb hm
  have hraw : rawOf 100005 p = (⟨#[]⟩, ⟨#[]⟩, ⟨#[]⟩, decide (p = 0 ∧ (100005 = (100003 : Int) ∨ 100005 = (100005 : Int)))) := by
    rw [rawOf, if_neg (by omega), if_neg (by omega)]
  obtain ⟨ok, hok⟩ : ∃ ok, ok = decide (p = 0 ∧ (100005 = (100003 : Int) ∨ 100005 = (100005 : Int))) := ⟨_, rfl⟩
  have ha' : a = ⟨#[]⟩ := by rw [ha, hraw]
  have hb' : b = ⟨#[]⟩ := by rw [hb, hraw]
  have HOF : Aside0 (ofF 100005 p = (Rb.wr a.data.toList, Rb.wr b.data.toList, ok)) := ⟨by
    rw [ofF, ← ha, ← hb, hok, hraw]⟩
  have hokv : ok = true := by rw [hok]; simp [hp]
  subst hp
  clear hraw ha hb
  have HOK := Aside0.mk hok
  subst hokv
  clear hok
  go_enter Tryz.func14, Tryz.ntmps14
  go_wp2_with (first
        | ((with_reducible refine gate_dst (N := 7) rfl ?_); refine box_event ?hg (N := 7) ?hd (cs := #[.string a, .string b, .string ⟨#[]⟩]) (t := 75) ?hr ?_; (case hd => rfl); (case hg => rfl); (case hr => (rw [ha', hb']); first | (go_simp; done) | (go_simp; rfl)); intro g1 hg1 w3 hb3 hb1; have HB3 := Aside0.mk hb1; have d0 := (blk_cell hb3 0).trans rfl; have d1 := (blk_cell hb3 1).trans rfl; have hm3 := Lib.Below.cellOf HB3.out HM.out (Nat.le_refl _); clear ha' hb' hb3 hb1 hg1))
  go_region_with (first
        | (go_at_call_of 29 (Value.string a); refine (HWA.out _ ?_).mono ?_; (first | exact hm3 | (simpa using hm3)); rintro e w4 ⟨rfl, hw4⟩; have HB4 := Aside0.mk hw4; have hm4 := cell_after hw4 hm3; have d14 := cell_after hw4 d1; clear hw4)
        | (go_at_call_of 29 (Value.string b); refine (HWB.out _ ?_).mono ?_; (first | exact hm4 | (simpa using hm4)); rintro e w5 ⟨rfl, hw5⟩; have HB5 := Aside0.mk hw5; clear hw5))
  all_goals
        go_wp2
        go_ret3
        rw [HOF.out]
        exact ⟨rfl, below_step (below_step HB3.out (below_drew HB4.out)) HB5.out⟩

set_option maxRecDepth 100000 in
set_option maxHeartbeats 4000000 in
theorem of_other (p m : Int) (g : Int) (h3 : ¬ g = 100003) (h5 : ¬ g = 100005) (hp : ¬ p = 0) (w : World) (hm : w.cell? ⟨0, 0, none⟩ = some (.int .i64 m)) :
    Calls Tryz.prog 14 #[.int .i64 g, .int .i64 p] w fun e w' => e = .returned (.tuple #[.string ⟨(ofF g p).1.toArray⟩, .string ⟨(ofF g p).2.1.toArray⟩, .bool (ofF g p).2.2]) ∧ Below w.heap.size w w' := by
  have HS := Aside0.mk (raw_short g p)
  obtain ⟨a, ha⟩ : ∃ a, a = (rawOf g p).1 := ⟨_, rfl⟩
  obtain ⟨b, hb⟩ : ∃ b, b = (rawOf g p).2.1 := ⟨_, rfl⟩
  have hWa : ∀ W : World, W.cell? ⟨0, 0, none⟩ = some (.int .i64 m) → Calls Tryz.prog 29 #[.string a] W fun e w' => e = .returned (.string ⟨(Rb.wr a.data.toList).toArray⟩) ∧ Below W.heap.size W w' := fun W hW => Rb.written_calls a m W hW (by rw [ha]; exact HS.out.1) (by rw [ha]; exact HS.out.2.2.1)
  have hWb : ∀ W : World, W.cell? ⟨0, 0, none⟩ = some (.int .i64 m) → Calls Tryz.prog 29 #[.string b] W fun e w' => e = .returned (.string ⟨(Rb.wr b.data.toList).toArray⟩) ∧ Below W.heap.size W w' := fun W hW => Rb.written_calls b m W hW (by rw [hb]; exact HS.out.2.1) (by rw [hb]; exact HS.out.2.2.2)
  have HM := Aside0.mk hm
  have HWA := Aside0.mk hWa
  have HWB := Aside0.mk hWb
  clear hWa hWb hm
  have hraw : rawOf g p = (⟨#[]⟩, ⟨#[]⟩, ⟨#[]⟩, decide (p = 0 ∧ (g = (100003 : Int) ∨ g = (100005 : Int)))) := by
    rw [rawOf, if_neg (by omega), if_neg (by omega)]
  obtain ⟨ok, hok⟩ : ∃ ok, ok = decide (p = 0 ∧ (g = (100003 : Int) ∨ g = (100005 : Int))) := ⟨_, rfl⟩
  have ha' : a = ⟨#[]⟩ := by rw [ha, hraw]
  have hb' : b = ⟨#[]⟩ := by rw [hb, hraw]
  have HOF : Aside0 (ofF g p = (Rb.wr a.data.toList, Rb.wr b.data.toList, ok)) := ⟨by
    rw [ofF, ← ha, ← hb, hok, hraw]⟩
  have hokv : ok = false := by rw [hok]; simp [h3, h5]
  have k3 : (g == 100003) = false := by simp [h3]
  have k5 : (g == 100005) = false := by simp [h5]
  have hp0 : (p == 0) = false := by simp [hp]
  clear hraw ha hb
  have HOK := Aside0.mk hok
  subst hokv
  clear hok
  go_enter Tryz.func14, Tryz.ntmps14
  go_wp2_with (first
        | ((with_reducible refine gate_dst (N := 7) rfl ?_); refine box_event ?hg (N := 7) ?hd (cs := #[.string a, .string b, .string ⟨#[]⟩]) (t := 75) ?hr ?_; (case hd => rfl); (case hg => rfl); (case hr => (rw [ha', hb']); first | (go_simp; done) | (go_simp; rfl)); intro g1 hg1 w3 hb3 hb1; have HB3 := Aside0.mk hb1; have d0 := (blk_cell hb3 0).trans rfl; have d1 := (blk_cell hb3 1).trans rfl; have hm3 := Lib.Below.cellOf HB3.out HM.out (Nat.le_refl _); clear ha' hb' hb3 hb1 hg1))
  go_region_with (first
        | (go_at_call_of 29 (Value.string a); refine (HWA.out _ ?_).mono ?_; (first | exact hm3 | (simpa using hm3)); rintro e w4 ⟨rfl, hw4⟩; have HB4 := Aside0.mk hw4; have hm4 := cell_after hw4 hm3; have d14 := cell_after hw4 d1; clear hw4)
        | (go_at_call_of 29 (Value.string b); refine (HWB.out _ ?_).mono ?_; (first | exact hm4 | (simpa using hm4)); rintro e w5 ⟨rfl, hw5⟩; have HB5 := Aside0.mk hw5; clear hw5))
  all_goals
        go_wp2
        go_ret3
        rw [HOF.out]
        exact ⟨rfl, below_step (below_step HB3.out (below_drew HB4.out)) HB5.out⟩

set_option maxRecDepth 100000 in
set_option maxHeartbeats 4000000 in
theorem of_other0 (p m : Int) (g : Int) (h3 : ¬ g = 100003) (h5 : ¬ g = 100005) (hp : p = 0) (w : World) (hm : w.cell? ⟨0, 0, none⟩ = some (.int .i64 m)) :
    Calls Tryz.prog 14 #[.int .i64 g, .int .i64 p] w fun e w' => e = .returned (.tuple #[.string ⟨(ofF g p).1.toArray⟩, .string ⟨(ofF g p).2.1.toArray⟩, .bool (ofF g p).2.2]) ∧ Below w.heap.size w w' := by
  have HS := Aside0.mk (raw_short g p)
  obtain ⟨a, ha⟩ : ∃ a, a = (rawOf g p).1 := ⟨_, rfl⟩
  obtain ⟨b, hb⟩ : ∃ b, b = (rawOf g p).2.1 := ⟨_, rfl⟩
  have hWa : ∀ W : World, W.cell? ⟨0, 0, none⟩ = some (.int .i64 m) → Calls Tryz.prog 29 #[.string a] W fun e w' => e = .returned (.string ⟨(Rb.wr a.data.toList).toArray⟩) ∧ Below W.heap.size W w' := fun W hW => Rb.written_calls a m W hW (by rw [ha]; exact HS.out.1) (by rw [ha]; exact HS.out.2.2.1)
  have hWb : ∀ W : World, W.cell? ⟨0, 0, none⟩ = some (.int .i64 m) → Calls Tryz.prog 29 #[.string b] W fun e w' => e = .returned (.string ⟨(Rb.wr b.data.toList).toArray⟩) ∧ Below W.heap.size W w' := fun W hW => Rb.written_calls b m W hW (by rw [hb]; exact HS.out.2.1) (by rw [hb]; exact HS.out.2.2.2)
  have HM := Aside0.mk hm
  have HWA := Aside0.mk hWa
  have HWB := Aside0.mk hWb
  clear hWa hWb hm
  have hraw : rawOf g p = (⟨#[]⟩, ⟨#[]⟩, ⟨#[]⟩, decide (p = 0 ∧ (g = (100003 : Int) ∨ g = (100005 : Int)))) := by
    rw [rawOf, if_neg (by omega), if_neg (by omega)]
  obtain ⟨ok, hok⟩ : ∃ ok, ok = decide (p = 0 ∧ (g = (100003 : Int) ∨ g = (100005 : Int))) := ⟨_, rfl⟩
  have ha' : a = ⟨#[]⟩ := by rw [ha, hraw]
  have hb' : b = ⟨#[]⟩ := by rw [hb, hraw]
  have HOF : Aside0 (ofF g p = (Rb.wr a.data.toList, Rb.wr b.data.toList, ok)) := ⟨by
    rw [ofF, ← ha, ← hb, hok, hraw]⟩
  have hokv : ok = false := by rw [hok]; simp [h3, h5]
  have k3 : (g == 100003) = false := by simp [h3]
  have k5 : (g == 100005) = false := by simp [h5]
  subst hp
  clear hraw ha hb
  have HOK := Aside0.mk hok
  subst hokv
  clear hok
  go_enter Tryz.func14, Tryz.ntmps14
  go_wp2_with (first
        | ((with_reducible refine gate_dst (N := 7) rfl ?_); refine box_event ?hg (N := 7) ?hd (cs := #[.string a, .string b, .string ⟨#[]⟩]) (t := 75) ?hr ?_; (case hd => rfl); (case hg => rfl); (case hr => (rw [ha', hb']); first | (go_simp; done) | (go_simp; rfl)); intro g1 hg1 w3 hb3 hb1; have HB3 := Aside0.mk hb1; have d0 := (blk_cell hb3 0).trans rfl; have d1 := (blk_cell hb3 1).trans rfl; have hm3 := Lib.Below.cellOf HB3.out HM.out (Nat.le_refl _); clear ha' hb' hb3 hb1 hg1))
  go_region_with (first
        | (go_at_call_of 29 (Value.string a); refine (HWA.out _ ?_).mono ?_; (first | exact hm3 | (simpa using hm3)); rintro e w4 ⟨rfl, hw4⟩; have HB4 := Aside0.mk hw4; have hm4 := cell_after hw4 hm3; have d14 := cell_after hw4 d1; clear hw4)
        | (go_at_call_of 29 (Value.string b); refine (HWB.out _ ?_).mono ?_; (first | exact hm4 | (simpa using hm4)); rintro e w5 ⟨rfl, hw5⟩; have HB5 := Aside0.mk hw5; clear hw5))
  all_goals
        go_wp2
        go_ret3
        rw [HOF.out]
        exact ⟨rfl, below_step (below_step HB3.out (below_drew HB4.out)) HB5.out⟩

theorem of_calls (g p m : Int) (w : World) (hm : w.cell? ⟨0, 0, none⟩ = some (.int .i64 m)) :
    Calls Tryz.prog 14 #[.int .i64 g, .int .i64 p] w fun e w' => e = .returned (.tuple #[.string ⟨(ofF g p).1.toArray⟩, .string ⟨(ofF g p).2.1.toArray⟩, .bool (ofF g p).2.2]) ∧ Below w.heap.size w w' := by
  by_cases h3 : g = 100003
  · subst h3
    by_cases hp : p = 0
    · exact of_zero_n p m hp w hm
    · exact of_nfs p m hp w hm
  · by_cases h5 : g = 100005
    · subst h5
      by_cases hp : p = 0
      · exact of_zero_m p m hp w hm
      · exact of_mount p m hp w hm
    · by_cases hp : p = 0
      · exact of_other0 p m g h3 h5 hp w hm
      · exact of_other p m g h3 h5 hp w hm
end Go.Proofs.YthamffpieafkbaaGreatDoor.Mo
