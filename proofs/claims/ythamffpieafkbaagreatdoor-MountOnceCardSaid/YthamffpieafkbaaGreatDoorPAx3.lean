-- printed by a program of this session (wip/tools), over the translation
import Derived.Test.YthamffpieafkbaaGreatDoorPAx0
namespace Go.Proofs.YthamffpieafkbaaGreatDoor.PA
open Go.RowKit Go.Proofs.YthamffpieafkbaaGreatDoorW.PrintWords Go.Proofs.YthamffpieafkbaaGreatDoorW.PrintLast Go.Proofs.YthamffpieafkbaaGreatDoorW.PrintMore
attribute [local go_sem] max2_int min2_int max_two min_two max_three min_three max_four min_four   -- for this text's walks alone
set_option linter.unusedVariables false
set_option linter.unusedSimpArgs false

/-! ### attr_Form: function 43 -/
def attr_Form.f  : Option (ByteArray × ByteArray) := some ((⟨#[117, 117, 117, 117, 117, 113, 113, 117, 117, 113, 113, 117, 117, 117, 117, 117, 117]⟩ : ByteArray), (⟨#[63, 40, 117, 41, 63, 40, 117, 41, 63, 40, 117, 41, 63, 40, 113, 41, 60, 48, 58, 44, 49, 58, 44, 50, 58, 117, 117, 62, 60, 48, 58, 44, 49, 58, 44, 50, 58, 117, 117, 62]⟩ : ByteArray))
set_option maxHeartbeats 8000000 in
set_option maxRecDepth 100000 in
theorem attr_Form.calls  (r1 : ByteArray) (r2 : ByteArray) (w : World) (h : attr_Form.f  = some (r1, r2)) :
    Calls Tryz.prog 43 #[] w fun e w' => e = .returned (.tuple #[.string r1, .string r2]) ∧ Drawn0 w w' := by
  have H : (some ((⟨#[117, 117, 117, 117, 117, 113, 113, 117, 117, 113, 113, 117, 117, 117, 117, 117, 117]⟩ : ByteArray), (⟨#[63, 40, 117, 41, 63, 40, 117, 41, 63, 40, 117, 41, 63, 40, 113, 41, 60, 48, 58, 44, 49, 58, 44, 50, 58, 117, 117, 62, 60, 48, 58, 44, 49, 58, 44, 50, 58, 117, 117, 62]⟩ : ByteArray))) = some (r1, r2) := h
  clear h
  simp only [Option.some.injEq, Prod.mk.injEq] at H
  obtain ⟨rfl, rfl⟩ := H
  go_enter Tryz.func43, Tryz.ntmps43
  go_wp2
  go_ret2
  exact ⟨by first | rfl | (simp; done) | (simp [*]; done), by repeat (first | exact Drawn0.refl _ | apply Drawn0.step)⟩

end Go.Proofs.YthamffpieafkbaaGreatDoor.PA
