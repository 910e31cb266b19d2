-- printed by a program of this session (wip/tools), over the translation
import Derived.Test.YtgfljlbecafipaaDoorPAx0
namespace Go.Proofs.YtgfljlbecafipaaDoor.PA
open Go.RowKit Go.Proofs.YtgfljlbecafipaaDoorW.PrintWords Go.Proofs.YtgfljlbecafipaaDoorW.PrintLast Go.Proofs.YtgfljlbecafipaaDoorW.PrintMore
attribute [local go_sem] max2_int min2_int max_two min_two max_three min_three max_four min_four   -- for this text's walks alone
set_option linter.unusedVariables false
set_option linter.unusedSimpArgs false

/-! ### shape_Changes: function 8 -/
def shape_Changes.f (a0 : Int) (a1 : Int) : Option (Bool) := if a0 = 100003 then (if a1 = 2 then (some true) else (if a1 = 7 then (some true) else (if a1 ≥ 8 then (some (decide (a1 ≤ 15))) else (some false)))) else (if a0 = 100005 then (if a1 = 1 then (some true) else (if a1 = 3 then (some true) else (some (a1 == 4)))) else (some false))
set_option maxHeartbeats 8000000 in
set_option maxRecDepth 100000 in
theorem shape_Changes.calls (a0 : Int) (a1 : Int) (r : Bool) (w : World) (h : shape_Changes.f a0 a1 = some r) :
    Calls Tryd.prog 8 #[.int .i64 a0, .int .i64 a1] w fun e w' => e = .returned (.bool r) ∧ Drawn0 w w' := by
  have H : (if a0 = 100003 then (if a1 = 2 then (some true) else (if a1 = 7 then (some true) else (if a1 ≥ 8 then (some (decide (a1 ≤ 15))) else (some false)))) else (if a0 = 100005 then (if a1 = 1 then (some true) else (if a1 = 3 then (some true) else (some (a1 == 4)))) else (some false))) = some r := h
  clear h
  by_cases c3 : a0 = 100003
  · rw [if_pos c3] at H
    have c3b0 : (a0 == 100003) = true := beq_iff_eq.mpr c3
    have c3b1 : (a0 != 100003) = false := bne_eq_false_iff_eq.mpr c3
    clear c3
    by_cases c4 : a1 = 2
    · rw [if_pos c4] at H
      have c4b0 : (a1 == 2) = true := beq_iff_eq.mpr c4
      have c4b1 : (a1 != 2) = false := bne_eq_false_iff_eq.mpr c4
      clear c4
      obtain rfl := Option.some.inj H
      go_enter Tryd.func8, Tryd.ntmps8
      go_wp2
      go_ret
      exact ⟨by first | rfl | (simp; done) | (simp [*]; done), by repeat (first | exact Drawn0.refl _ | apply Drawn0.step)⟩
    · rw [if_neg c4] at H
      have c4b0 : (a1 == 2) = false := beq_eq_false_iff_ne.mpr c4
      have c4b1 : (a1 != 2) = true := bne_iff_ne.mpr c4
      by_cases c5 : a1 = 7
      · rw [if_pos c5] at H
        have c5b0 : (a1 == 7) = true := beq_iff_eq.mpr c5
        have c5b1 : (a1 != 7) = false := bne_eq_false_iff_eq.mpr c5
        clear c5
        obtain rfl := Option.some.inj H
        go_enter Tryd.func8, Tryd.ntmps8
        go_wp2
        go_ret
        exact ⟨by first | rfl | (simp; done) | (simp [*]; done), by repeat (first | exact Drawn0.refl _ | apply Drawn0.step)⟩
      · rw [if_neg c5] at H
        have c5b0 : (a1 == 7) = false := beq_eq_false_iff_ne.mpr c5
        have c5b1 : (a1 != 7) = true := bne_iff_ne.mpr c5
        by_cases c6 : a1 ≥ 8
        · rw [if_pos c6] at H
          have c6b0 : decide (8 ≤ a1) = true := decide_eq_true c6
          clear c6
          obtain rfl := Option.some.inj H
          go_enter Tryd.func8, Tryd.ntmps8
          go_wp2
          go_ret
          exact ⟨by first | rfl | (simp; done) | (simp [*]; done), by repeat (first | exact Drawn0.refl _ | apply Drawn0.step)⟩
        · rw [if_neg c6] at H
          have c6b0 : decide (8 ≤ a1) = false := decide_eq_false c6
          clear c6
          obtain rfl := Option.some.inj H
          go_enter Tryd.func8, Tryd.ntmps8
          go_wp2
          go_ret
          exact ⟨by first | rfl | (simp; done) | (simp [*]; done), by repeat (first | exact Drawn0.refl _ | apply Drawn0.step)⟩
  · rw [if_neg c3] at H
    have c3b0 : (a0 == 100003) = false := beq_eq_false_iff_ne.mpr c3
    have c3b1 : (a0 != 100003) = true := bne_iff_ne.mpr c3
    by_cases c7 : a0 = 100005
    · rw [if_pos c7] at H
      have c7b0 : (a0 == 100005) = true := beq_iff_eq.mpr c7
      have c7b1 : (a0 != 100005) = false := bne_eq_false_iff_eq.mpr c7
      clear c7
      by_cases c8 : a1 = 1
      · rw [if_pos c8] at H
        have c8b0 : (a1 == 1) = true := beq_iff_eq.mpr c8
        have c8b1 : (a1 != 1) = false := bne_eq_false_iff_eq.mpr c8
        clear c8
        obtain rfl := Option.some.inj H
        go_enter Tryd.func8, Tryd.ntmps8
        go_wp2
        go_ret
        exact ⟨by first | rfl | (simp; done) | (simp [*]; done), by repeat (first | exact Drawn0.refl _ | apply Drawn0.step)⟩
      · rw [if_neg c8] at H
        have c8b0 : (a1 == 1) = false := beq_eq_false_iff_ne.mpr c8
        have c8b1 : (a1 != 1) = true := bne_iff_ne.mpr c8
        by_cases c9 : a1 = 3
        · rw [if_pos c9] at H
          have c9b0 : (a1 == 3) = true := beq_iff_eq.mpr c9
          have c9b1 : (a1 != 3) = false := bne_eq_false_iff_eq.mpr c9
          clear c9
          obtain rfl := Option.some.inj H
          go_enter Tryd.func8, Tryd.ntmps8
          go_wp2
          go_ret
          exact ⟨by first | rfl | (simp; done) | (simp [*]; done), by repeat (first | exact Drawn0.refl _ | apply Drawn0.step)⟩
        · rw [if_neg c9] at H
          have c9b0 : (a1 == 3) = false := beq_eq_false_iff_ne.mpr c9
          have c9b1 : (a1 != 3) = true := bne_iff_ne.mpr c9
          obtain rfl := Option.some.inj H
          go_enter Tryd.func8, Tryd.ntmps8
          go_wp2
          go_ret
          exact ⟨by first | rfl | (simp; done) | (simp [*]; done), by repeat (first | exact Drawn0.refl _ | apply Drawn0.step)⟩
    · rw [if_neg c7] at H
      have c7b0 : (a0 == 100005) = false := beq_eq_false_iff_ne.mpr c7
      have c7b1 : (a0 != 100005) = true := bne_iff_ne.mpr c7
      obtain rfl := Option.some.inj H
      go_enter Tryd.func8, Tryd.ntmps8
      go_wp2
      go_ret
      exact ⟨by first | rfl | (simp; done) | (simp [*]; done), by repeat (first | exact Drawn0.refl _ | apply Drawn0.step)⟩

end Go.Proofs.YtgfljlbecafipaaDoor.PA
