/- speaks of layer 24: it answers true. What Twice answers. -/
import Derived.Test.YtnmkgmfpnepmmaaGreatDoorEPa
import Derived.Test.YtnmkgmfpnepmmaaGreatDoorPAx1
namespace Go.Proofs.YtnmkgmfpnepmmaaGreatDoor.PA
open Go.RowKit Go.Proofs.YtnmkgmfpnepmmaaGreatDoorW.PrintWords Go.Proofs.YtnmkgmfpnepmmaaGreatDoorW.PrintLast Go.Proofs.YtnmkgmfpnepmmaaGreatDoorW.PrintMore
set_option linter.unusedVariables false
set_option linter.unusedSimpArgs false
set_option maxRecDepth 100000

def coraclelaw24_speaks.f : Option Bool := some true

def spA : S29 := ⟨1, 3, 0, 0, 0, false⟩
def spB : S29 := ⟨1, 8, 0, 0, 0, false⟩
theorem sp_gaps : gapsFrom 1 none [spA, spB] = [Fl.gap 8 3] := by
  simp [gapsFrom, spA, spB]
theorem sp_mean : Fl.meanF [Fl.gap 8 3] = 4617315517961601024 := by decide +kernel
theorem sp_order : (FloatKind.f64.format.order 4617315517961601024 4617315517961601024 == some .eq) = true := by decide +kernel

theorem coraclelaw24_speaks.calls (r : Bool) (w : World) (h : coraclelaw24_speaks.f = some r) : Calls Tryz.prog 4 #[] w fun e w' => e = .returned (.bool r) ∧ Below w.heap.size w w' := by
  obtain rfl : true = r := by injection h
  clear h
  have hu := Tryz.underlying29
  have hu2 := Tryz.underlying24
  have so := sp_order
  go_enter Tryz.func4, Tryz.ntmps4
  go_wp2_with (first
    | ((with_reducible refine gate_dst (N := 6) rfl ?_); refine Kd.R_lit k29 (w0 := w) w.heap.size 29 rfl (N := 6) rfl (xs := [spA, spB]) (inner := (cellsOf spA).toList ++ (cellsOf spB).toList) (ok := fun _ => True) (okp := fun _ => True) ?hr ?hp (fun _ h => h) trivial ?hB (Nat.le_refl _) (by decide) ?_; (case hr => first | (go_simp; done) | (go_simp; rfl)); (case hp => exact ((Reps.none _ 6).snoc (k29_mkM w _ _ spA) rfl).snoc (k29_mkM w _ _ spB) rfl); (case hB => exact Below.refl _ _); intro v1 w1 hR hB hg _; obtain ⟨A1, c1, rfl, hc1, hC1⟩ := Kd.R_reads hR; clear hR hg; have HB := Aside0.mk hB; clear hB; have HC := Aside0.mk hC1; clear hC1)
    | (go_at_call 6; refine (pace_calls A1 c1 1 [spA, spB] _ HC.out hc1 (by decide) (by simp [Ok64, spA, spB])).mono ?_; rw [sp_gaps]; rintro e w' ⟨⟨b, rfl, hb⟩, hbel⟩; obtain rfl : b = 4617315517961601024 := (hb.elim (fun h => by cases h.1) (fun h => by rw [h.2, sp_mean])); clear hb; have HB2 := Aside0.mk (below_step HB.out hbel); clear hbel))
  go_ret
  exact ⟨rfl, HB2.out⟩
end Go.Proofs.YtnmkgmfpnepmmaaGreatDoor.PA
